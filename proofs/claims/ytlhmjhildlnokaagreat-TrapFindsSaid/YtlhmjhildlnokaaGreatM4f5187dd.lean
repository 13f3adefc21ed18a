/-
  Old trapezes among one line more; the rests at its ends; walls above and below it.
-/
import Derived.Test.YtlhmjhildlnokaaGreatM235ebbbf
import Derived.Test.YtlhmjhildlnokaaGreatMfa190596
namespace Go.Proofs.YtlhmjhildlnokaaGreat
set_option linter.unusedVariables false
set_option linter.unusedSimpArgs false
open Go.RowKit Go.Sort Go.Shelf
variable {S : List (Int × Sg)} {t t' : Tz}
theorem inB_t {a : Pt} (h : InP a) : inB a = true := decide_eq_true h
theorem less_X {a b : Pt} (ha : InP a) (hb : InP b) : lessB a b = true ↔ Xr a < Xr b := by
 unfold lessB; rw [decide_eq_true_eq]; exact less_Xr ha hb
theorem turn_sign {a b c : Pt} (ia : InP a) (ib : InP b) (ic : InP c) (hab : Xr a < Xr b) :
  (0 < turnB a b c ↔ (lnOf a b).at (Xr c) < Yr c) ∧ (turnB a b c < 0 ↔ Yr c < (lnOf a b).at (Xr c)) ∧ (turnB a b c = 0 ↔ Yr c = (lnOf a b).at (Xr c)) := by
 have e : turnB a b c = sgnZ (crossZ a b c) := by unfold turnB; rw [inB_t ia, inB_t ib, inB_t ic]; rfl
 rw [e, at_pos hab, at_neg hab, at_zero hab]
 rcases sg_cases (crossZ a b c) with ⟨h, k⟩ | ⟨h, k⟩ | ⟨h, k⟩ <;> rw [k] <;> omega
theorem orZ_first {a : Int} {l : List Int} (h : a ≠ 0) : orZ (a :: l) = a := by unfold orZ; rw [if_neg h]
theorem orZ_next {l : List Int} : orZ (0 :: l) = orZ l := by rw [orZ, if_pos rfl]
theorem side_sign (O : SOk S) {q r : Int × Sg} (hq : q ∈ S) (hr : r ∈ S) (hne : q ≠ r) {x : Rat} (h1 : (lnS q.2).spans x) (h2 : (lnS r.2).spans x) :
  (0 < sideZ q.2 r.2 ↔ (lnS q.2).at x < (lnS r.2).at x) ∧ (sideZ q.2 r.2 < 0 ↔ (lnS r.2).at x < (lnS q.2).at x) := by
 have sep := O.sep q hq r hr hne
 obtain ⟨qa, qb, _⟩ := O.rng q hq
 obtain ⟨ra, rb, _⟩ := O.rng r hr
 obtain ⟨ql, q1, q2⟩ := O.ln1 hq
 obtain ⟨rl, r1, r2⟩ := O.ln1 hr
 have off1 := O.off q hq r hr r.2.a (.inl rfl)
 have off2 := O.off r hr q hq q.2.a (.inl rfl)
 have hx := sep x h1 h2
 have a1 : Xr q.2.a < x := h1.1
 have a2 : x < Xr q.2.b := h1.2
 have b1 : Xr r.2.a < x := h2.1
 have b2 : x < Xr r.2.b := h2.2
 unfold sideZ
 by_cases hl : Xr q.2.a < Xr r.2.a
 ·rw [if_pos ((less_X qa ra).2 hl)]
  have sp : (lnS q.2).spans (Xr r.2.a) := ⟨hl, show Xr r.2.a < Xr q.2.b by grind⟩
  obtain ⟨g1, g2, g3⟩ := turn_sign (c := r.2.a) qa qb ra ql
  have ne := off1 sp
  have hne0 : turnB q.2.a q.2.b r.2.a ≠ 0 := fun e => by
   have := g3.1 e
   unfold lnS at ne; grind
  rw [orZ_first hne0, g1, g2]
  have k := sep.ends (x := x) (y := Xr r.2.a) h1 h2 ⟨Rat.le_of_lt sp.1, Rat.le_of_lt sp.2⟩ ⟨Rat.le_refl, show Xr r.2.a ≤ Xr r.2.b by grind⟩ (by rw [r1]; exact ne)
  rw [r1] at k
  unfold lnS at k hx ne ⊢
  constructor
  ·exact k.symm
  ·have g : (lnOf r.2.a r.2.b).at x < (lnOf q.2.a q.2.b).at x ↔ ¬ (lnOf q.2.a q.2.b).at x < (lnOf r.2.a r.2.b).at x := by grind
   rw [g, k]
   grind
 ·have hl' : ¬ lessB q.2.a r.2.a = true := fun h => hl ((less_X qa ra).1 h)
  rw [if_neg hl']
  obtain ⟨g1, g2, g3⟩ := turn_sign (c := q.2.a) ra rb qa rl
  by_cases he : Xr q.2.a = Xr r.2.a
  ·have e := Xi_inj qa ra (Xr_eq.1 he)
   have z : turnB r.2.a r.2.b q.2.a = 0 := g3.2 (by
    have : Yr q.2.a = (lnOf r.2.a r.2.b).at (Xr r.2.a) := by rw [e]; exact r1.symm
    rw [he]; exact this)
   rw [z, Int.neg_zero, orZ_next]
   obtain ⟨k1, k2, k3⟩ := turn_sign (c := q.2.b) ra rb qb rl
   have e0 : (lnS q.2).at (Xr q.2.a) = (lnS r.2).at (Xr q.2.a) := by rw [q1, he, r1, e]
   have f1 := Ln.fan_r (x := x) (y := Xr q.2.b) e0 a1 (by grind)
   have f2 := Ln.fan_r (x := x) (y := Xr q.2.b) e0.symm a1 (by grind)
   rw [q2] at f1 f2
   unfold lnS at f1 f2 hx ⊢
   have hne0 : - turnB r.2.a r.2.b q.2.b ≠ 0 := fun e => by
    have := k3.1 (by omega)
    grind
   rw [orZ_first hne0]
   have n1 : 0 < - turnB r.2.a r.2.b q.2.b ↔ turnB r.2.a r.2.b q.2.b < 0 := by omega
   have n2 : - turnB r.2.a r.2.b q.2.b < 0 ↔ 0 < turnB r.2.a r.2.b q.2.b := by omega
   rw [n1, n2, k1, k2, f1, f2]
   exact ⟨Iff.rfl, Iff.rfl⟩
  ·have hlt : Xr r.2.a < Xr q.2.a := by grind
   have sp : (lnS r.2).spans (Xr q.2.a) := ⟨hlt, show Xr q.2.a < Xr r.2.b by grind⟩
   have ne := off2 sp
   have hne0 : - turnB r.2.a r.2.b q.2.a ≠ 0 := fun e => by
    have := g3.1 (by omega)
    unfold lnS at ne; grind
   rw [orZ_first hne0]
   have k := sep.ends (x := x) (y := Xr q.2.a) h1 h2 ⟨Rat.le_refl, show Xr q.2.a ≤ Xr q.2.b by grind⟩ ⟨Rat.le_of_lt sp.1, Rat.le_of_lt sp.2⟩ (by rw [q1]; exact ne.symm)
   rw [q1] at k
   have n1 : 0 < - turnB r.2.a r.2.b q.2.a ↔ turnB r.2.a r.2.b q.2.a < 0 := by omega
   have n2 : - turnB r.2.a r.2.b q.2.a < 0 ↔ 0 < turnB r.2.a r.2.b q.2.a := by omega
   rw [n1, n2, g1, g2]
   unfold lnS at k hx ne ⊢
   constructor
   ·exact k.symm
   ·have g : (lnOf r.2.a r.2.b).at x < (lnOf q.2.a q.2.b).at x ↔ ¬ (lnOf q.2.a q.2.b).at x < (lnOf r.2.a r.2.b).at x := by grind
    rw [g, k]
    grind
theorem SOk.tail {S : List (Int × Sg)} {id : Int} {s : Sg} (O : SOk ((id, s) :: S)) : SOk S where
 ids q hq := O.ids q (by simp [hq])
 keys := (List.nodup_cons.1 O.keys).2
 rng q hq := O.rng q (by simp [hq])
 sep q hq r hr := O.sep q (by simp [hq]) r (by simp [hr])
 off q hq r hr := O.off q (by simp [hq]) r (by simp [hr])
variable {id : Int} {s : Sg}
theorem SOk.fresh (O : SOk ((id, s) :: S)) {q : Int × Sg} (hq : q ∈ S) : q.1 ≠ id := fun e => (List.nodup_cons.1 O.keys).1 (List.mem_map.2 ⟨q, hq, e⟩)
theorem getA_cons {i : Int} (h : i ≠ id) : getA ((id, s) :: S) i = getA S i := by
 unfold getA
 rw [firstI, if_neg h]
 have : ∀ (l : List (Int × Sg)) (k : Nat), (firstI i l (k + 1)).map (·.2) = (firstI i l k).map (·.2) := by
  intro l
  induction l with
  | nil => intro k; rfl
  | cons a l ih =>
   intro k
   obtain ⟨a1, a2⟩ := a
   unfold firstI
   split
   ·rfl
   ·exact ih (k + 1)
 exact this S 0
theorem getA_head : getA ((id, s) :: S) id = some s := by unfold getA; rw [firstI, if_pos rfl]; rfl
theorem sgOf_cons {i : Int} (h : i ≠ id) : sgOf ((id, s) :: S) i = sgOf S i := by unfold sgOf; rw [getA_cons h]
theorem sgOf_head : sgOf ((id, s) :: S) id = s := by unfold sgOf; rw [getA_head]; rfl
theorem sgOf_mem (O : SOk S) {q : Int × Sg} (hq : q ∈ S) : sgOf S q.1 = q.2 := by
 unfold sgOf; rw [(getA_some O.keys).2 hq]; rfl
theorem Val.notId (O : SOk ((id, s) :: S)) (V : Val S t) : t.bot ≠ id ∧ t.top ≠ id := by
 have h0 := O.ids (id, s) (by simp)
 simp only at h0
 constructor
 ·intro e
  have := V.bot (by rw [e]; exact h0)
  exact O.fresh this.1 e
 ·intro e
  have := V.top (by rw [e]; exact h0)
  exact O.fresh this.1 e
def Pass (S : List (Int × Sg)) (s : Sg) (t : Tz) : Prop := ∃ x, (lnS s).spans x ∧ InT S t x ((lnS s).at x)
theorem Pass.all (O : SOk ((id, s) :: S)) (V : Val S t) (h : Pass S s t) {x : Rat} (hx : (lnS s).spans x) (ix : InX t x) : InT S t x ((lnS s).at x) := by
 obtain ⟨x0, h1, h2⟩ := h
 refine ⟨ix, fun hb => ?_, fun hb => ?_⟩
 ·have hm := (V.bot hb).1
  have sep := O.sep (t.bot, sgOf S t.bot) (by simp [hm]) (id, s) (by simp) (fun e => O.fresh hm (by rw [e]))
  exact sep.keeps (V.botSp hb h2.ix) h1 (V.botSp hb ix) hx (h2.lo hb)
 ·have hm := (V.top hb).1
  have sep := O.sep (id, s) (by simp) (t.top, sgOf S t.top) (by simp [hm]) (fun e => O.fresh hm (by rw [← e]))
  exact sep.keeps h1 (V.topSp hb h2.ix) hx (V.topSp hb ix) (h2.hi hb)
theorem common (O : SOk ((id, s) :: S)) (V : Val S t) (h1 : t.hl = true → Xr t.l < Xr s.b) (h2 : t.hr = true → Xr s.a < Xr t.r) (E : List Rat) : ∃ x, (lnS s).spans x ∧ InX t x ∧ x ∉ E := by
 have hs := (O.ln1 (q := (id, s)) (by simp)).1
 simp only at hs
 obtain ⟨lo, l1, l2, l3⟩ : ∃ lo, Xr s.a ≤ lo ∧ (t.hl = true → Xr t.l ≤ lo) ∧ (lo = Xr s.a ∨ t.hl = true ∧ lo = Xr t.l) := by
  cases hl : t.hl
  ·exact ⟨Xr s.a, Rat.le_refl, fun h => (by cases h), .inl rfl⟩
  ·by_cases g : Xr t.l ≤ Xr s.a
   ·exact ⟨Xr s.a, Rat.le_refl, fun _ => g, .inl rfl⟩
   ·exact ⟨Xr t.l, by grind, fun _ => Rat.le_refl, .inr ⟨rfl, rfl⟩⟩
 obtain ⟨hi, r1, r2, r3⟩ : ∃ hi, hi ≤ Xr s.b ∧ (t.hr = true → hi ≤ Xr t.r) ∧ (hi = Xr s.b ∨ t.hr = true ∧ hi = Xr t.r) := by
  cases hr : t.hr
  ·exact ⟨Xr s.b, Rat.le_refl, fun h => (by cases h), .inl rfl⟩
  ·by_cases g : Xr s.b ≤ Xr t.r
   ·exact ⟨Xr s.b, Rat.le_refl, fun _ => g, .inl rfl⟩
   ·exact ⟨Xr t.r, by grind, fun _ => Rat.le_refl, .inr ⟨rfl, rfl⟩⟩
 have hlt : lo < hi := by
  rcases l3 with rfl | ⟨hl, rfl⟩ <;> rcases r3 with rfl | ⟨hr, rfl⟩
  ·exact hs
  ·exact h2 hr
  ·exact h1 hl
  ·exact Xr_lt.2 (V.lr hl hr)
 obtain ⟨x, a1, a2, a3⟩ := between hlt E
 exact ⟨x, ⟨show Xr s.a < x by grind, show x < Xr s.b by grind⟩, ⟨fun h => by have := l2 h; grind, fun h => by have := r2 h; grind⟩, a3⟩
theorem hit_iff (O : SOk ((id, s) :: S)) (V : Val S t) {n : Int} {g : Bool} : hitB S s ⟨t, n, g⟩ = true ↔ g = false ∧ Pass S s t := by
 obtain ⟨sa, sb, _⟩ := O.rng (id, s) (by simp)
 simp only at sa sb
 have key : ∀ x, (lnS s).spans x → InX t x → ((t.bot ≠ 0 → ¬ sideZ (sgOf S t.bot) s < 0) ∧ (t.top ≠ 0 → ¬ 0 < sideZ (sgOf S t.top) s) ↔ InT S t x ((lnS s).at x)) := by
  intro x hx ix
  have eb : t.bot ≠ 0 → (¬ sideZ (sgOf S t.bot) s < 0 ↔ (botL S t).at x < (lnS s).at x) := fun hb => by
   have hm := (V.bot hb).1
   have hne : (t.bot, sgOf S t.bot) ≠ (id, s) := fun e => O.fresh hm (by rw [e])
   have := side_sign O (q := (t.bot, sgOf S t.bot)) (r := (id, s)) (by simp [hm]) (by simp) hne (V.botSp hb ix) hx
   have ne := O.sep (t.bot, sgOf S t.bot) (by simp [hm]) (id, s) (by simp) hne x (V.botSp hb ix) hx
   rw [this.2]
   unfold botL
   simp only at ne
   grind
  have et : t.top ≠ 0 → (¬ 0 < sideZ (sgOf S t.top) s ↔ (lnS s).at x < (topL S t).at x) := fun hb => by
   have hm := (V.top hb).1
   have hne : (t.top, sgOf S t.top) ≠ (id, s) := fun e => O.fresh hm (by rw [e])
   have := side_sign O (q := (t.top, sgOf S t.top)) (r := (id, s)) (by simp [hm]) (by simp) hne (V.topSp hb ix) hx
   have ne := O.sep (t.top, sgOf S t.top) (by simp [hm]) (id, s) (by simp) hne x (V.topSp hb ix) hx
   rw [this.1]
   unfold topL
   simp only at ne
   grind
  constructor
  ·rintro ⟨g1, g2⟩
   exact ⟨ix, fun hb => (eb hb).1 (g1 hb), fun hb => (et hb).1 (g2 hb)⟩
  ·rintro ⟨_, g1, g2⟩
   exact ⟨fun hb => (eb hb).2 (g1 hb), fun hb => (et hb).2 (g2 hb)⟩
 have wlb : t.hl = true → (lessB t.l s.b = true ↔ Xr t.l < Xr s.b) := fun h => less_X (O.tail.endIn (V.wl h).1) sb
 have wrb : t.hr = true → (lessB s.a t.r = true ↔ Xr s.a < Xr t.r) := fun h => less_X sa (O.tail.endIn (V.wr h).1)
 have unf : hitB S s ⟨t, n, g⟩ = true ↔ g = false ∧ (t.hl = true → lessB t.l s.b = true) ∧ (t.hr = true → lessB s.a t.r = true) ∧ (t.bot ≠ 0 → ¬ sideZ (sgOf S t.bot) s < 0) ∧ (t.top ≠ 0 → ¬ 0 < sideZ (sgOf S t.top) s) := by
  unfold hitB
  simp only [Bool.and_eq_true, Bool.not_eq_true', Bool.and_eq_false_iff, Bool.not_eq_false', bne_eq_false_iff_eq, decide_eq_false_iff_not]
  constructor
  ·rintro ⟨h1, h2, h3, h4, h5⟩
   refine ⟨h1, fun h => ?_, fun h => ?_, fun h => ?_, fun h => ?_⟩
   ·rcases h2 with h2 | h2; · rw [h] at h2; cases h2
    ·exact h2
   ·rcases h3 with h2 | h2; · rw [h] at h2; cases h2
    ·exact h2
   ·rcases h4 with h2 | h2; · exact absurd h2 h
    ·exact h2
   ·rcases h5 with h2 | h2; · exact absurd h2 h
    ·exact h2
  ·rintro ⟨h1, h2, h3, h4, h5⟩
   refine ⟨h1, ?_, ?_, ?_, ?_⟩
   ·cases hh : t.hl; · exact .inl rfl
    ·exact .inr (h2 hh)
   ·cases hh : t.hr; · exact .inl rfl
    ·exact .inr (h3 hh)
   ·by_cases hh : t.bot = 0; · exact .inl hh
    ·exact .inr (h4 hh)
   ·by_cases hh : t.top = 0; · exact .inl hh
    ·exact .inr (h5 hh)
 rw [unf]
 constructor
 ·rintro ⟨hg, h1, h2, h3⟩
  refine ⟨hg, ?_⟩
  obtain ⟨x, hx, ix, _⟩ := common O V (fun h => (wlb h).1 (h1 h)) (fun h => (wrb h).1 (h2 h)) []
  exact ⟨x, hx, (key x hx ix).1 h3⟩
 ·rintro ⟨hg, x, hx, hI⟩
  have x1 : Xr s.a < x := hx.1
  have x2 : x < Xr s.b := hx.2
  exact ⟨hg, fun h => (wlb h).2 (by have := hI.ix.1 h; grind), fun h => (wrb h).2 (by have := hI.ix.2 h; grind), (key x hx hI.ix).2 hI⟩
variable {S : List (Int × Sg)} {N : List Nd}
inductive Ans where
 | on (id : Int)
 | leaf (n : Nat)
inductive DescZ (N : List Nd) (S : List (Int × Sg)) (q : Pt) : Nat → Nat → Ans → Prop
 | leaf {n : Nat} {d : Nd} (h : N[n]? = some d) (hk : d.k = 0) : DescZ N S q 0 n (.leaf n)
 | ptL {n m k : Nat} {d : Nd} {r : Ans} (h : N[n]? = some d) (hk : d.k = 1) (hx : lessB q d.p = true) (hm : d.a = (m : Int)) (hd : DescZ N S q k m r) : DescZ N S q (k + 1) n r
 | ptR {n m k : Nat} {d : Nd} {r : Ans} (h : N[n]? = some d) (hk : d.k = 1) (hx : lessB q d.p = false) (hm : d.b = (m : Int)) (hd : DescZ N S q k m r) : DescZ N S q (k + 1) n r
 | lnU {n m k : Nat} {d : Nd} {r : Ans} (h : N[n]? = some d) (hk : d.k = 2) (hy : turnB (sgOf S d.id).a (sgOf S d.id).b q = 1) (hm : d.a = (m : Int)) (hd : DescZ N S q k m r) : DescZ N S q (k + 1) n r
 | lnD {n m k : Nat} {d : Nd} {r : Ans} (h : N[n]? = some d) (hk : d.k = 2) (hy : turnB (sgOf S d.id).a (sgOf S d.id).b q = -1) (hm : d.b = (m : Int)) (hd : DescZ N S q k m r) : DescZ N S q (k + 1) n r
 | on {n : Nat} {d : Nd} (h : N[n]? = some d) (hk : d.k = 2) (hy : turnB (sgOf S d.id).a (sgOf S d.id).b q = 0) : DescZ N S q 0 n (.on d.id)
theorem DescZ.node {q : Pt} {k n : Nat} {r : Ans} (h : DescZ N S q k n r) : ∃ d, N[n]? = some d := by cases h <;> exact ⟨_, by assumption⟩
theorem DescZ.one {q : Pt} {k n : Nat} {r : Ans} (h : DescZ N S q k n r) : ∀ {k' r'}, DescZ N S q k' n r' → r = r' := by
 induction h with
 | leaf h hk =>
  intro k' r' g
  cases g with
  | leaf h' hk' => rfl
  | ptL h' hk' => rw [h] at h'; injection h' with h'; subst h'; omega
  | ptR h' hk' => rw [h] at h'; injection h' with h'; subst h'; omega
  | lnU h' hk' => rw [h] at h'; injection h' with h'; subst h'; omega
  | lnD h' hk' => rw [h] at h'; injection h' with h'; subst h'; omega
  | on h' hk' => rw [h] at h'; injection h' with h'; subst h'; omega
 | ptL h hk hx hm _ ih =>
  intro k' r' g
  cases g with
  | leaf h' hk' => rw [h] at h'; injection h' with h'; subst h'; omega
  | ptL h' hk' hx' hm' g => rw [h] at h'; injection h' with h'; subst h'; rw [hm] at hm'; rw [Int.ofNat.inj hm'] at ih; exact ih g
  | ptR h' hk' hx' => rw [h] at h'; injection h' with h'; subst h'; rw [hx] at hx'; cases hx'
  | lnU h' hk' => rw [h] at h'; injection h' with h'; subst h'; omega
  | lnD h' hk' => rw [h] at h'; injection h' with h'; subst h'; omega
  | on h' hk' => rw [h] at h'; injection h' with h'; subst h'; omega
 | ptR h hk hx hm _ ih =>
  intro k' r' g
  cases g with
  | leaf h' hk' => rw [h] at h'; injection h' with h'; subst h'; omega
  | ptR h' hk' hx' hm' g => rw [h] at h'; injection h' with h'; subst h'; rw [hm] at hm'; rw [Int.ofNat.inj hm'] at ih; exact ih g
  | ptL h' hk' hx' => rw [h] at h'; injection h' with h'; subst h'; rw [hx] at hx'; cases hx'
  | lnU h' hk' => rw [h] at h'; injection h' with h'; subst h'; omega
  | lnD h' hk' => rw [h] at h'; injection h' with h'; subst h'; omega
  | on h' hk' => rw [h] at h'; injection h' with h'; subst h'; omega
 | lnU h hk hx hm _ ih =>
  intro k' r' g
  cases g with
  | leaf h' hk' => rw [h] at h'; injection h' with h'; subst h'; omega
  | ptL h' hk' => rw [h] at h'; injection h' with h'; subst h'; omega
  | ptR h' hk' => rw [h] at h'; injection h' with h'; subst h'; omega
  | lnU h' hk' hx' hm' g => rw [h] at h'; injection h' with h'; subst h'; rw [hm] at hm'; rw [Int.ofNat.inj hm'] at ih; exact ih g
  | lnD h' hk' hx' => rw [h] at h'; injection h' with h'; subst h'; rw [hx] at hx'; cases hx'
  | on h' hk' hx' => rw [h] at h'; injection h' with h'; subst h'; rw [hx] at hx'; cases hx'
 | lnD h hk hx hm _ ih =>
  intro k' r' g
  cases g with
  | leaf h' hk' => rw [h] at h'; injection h' with h'; subst h'; omega
  | ptL h' hk' => rw [h] at h'; injection h' with h'; subst h'; omega
  | ptR h' hk' => rw [h] at h'; injection h' with h'; subst h'; omega
  | lnD h' hk' hx' hm' g => rw [h] at h'; injection h' with h'; subst h'; rw [hm] at hm'; rw [Int.ofNat.inj hm'] at ih; exact ih g
  | lnU h' hk' hx' => rw [h] at h'; injection h' with h'; subst h'; rw [hx] at hx'; cases hx'
  | on h' hk' hx' => rw [h] at h'; injection h' with h'; subst h'; rw [hx] at hx'; cases hx'
 | on h hk hx =>
  intro k' r' g
  cases g with
  | leaf h' hk' => rw [h] at h'; injection h' with h'; subst h'; omega
  | ptL h' hk' => rw [h] at h'; injection h' with h'; subst h'; omega
  | ptR h' hk' => rw [h] at h'; injection h' with h'; subst h'; omega
  | lnU h' hk' hx' => rw [h] at h'; injection h' with h'; subst h'; rw [hx] at hx'; cases hx'
  | lnD h' hk' hx' => rw [h] at h'; injection h' with h'; subst h'; rw [hx] at hx'; cases hx'
  | on h' hk' hx' => rw [h] at h'; injection h' with h'; subst h'; rfl
inductive Desc (N : List Nd) (S : List (Int × Sg)) (x y : Rat) : Nat → Nat → Ans → Prop
 | leaf {n : Nat} {q : Nd} (h : N[n]? = some q) (hk : q.k = 0) : Desc N S x y 0 n (.leaf n)
 | ptL {n m k : Nat} {q : Nd} {r : Ans} (h : N[n]? = some q) (hk : q.k = 1) (hp : InP q.p) (hx : x < Xr q.p) (hm : q.a = (m : Int)) (hd : Desc N S x y k m r) : Desc N S x y (k + 1) n r
 | ptR {n m k : Nat} {q : Nd} {r : Ans} (h : N[n]? = some q) (hk : q.k = 1) (hp : InP q.p) (hx : Xr q.p < x) (hm : q.b = (m : Int)) (hd : Desc N S x y k m r) : Desc N S x y (k + 1) n r
 | lnU {n m k : Nat} {q : Nd} {s : Sg} {r : Ans} (h : N[n]? = some q) (hk : q.k = 2) (hs : (q.id, s) ∈ S) (hy : (lnS s).at x < y) (hm : q.a = (m : Int)) (hd : Desc N S x y k m r) : Desc N S x y (k + 1) n r
 | lnD {n m k : Nat} {q : Nd} {s : Sg} {r : Ans} (h : N[n]? = some q) (hk : q.k = 2) (hs : (q.id, s) ∈ S) (hy : y < (lnS s).at x) (hm : q.b = (m : Int)) (hd : Desc N S x y k m r) : Desc N S x y (k + 1) n r
 | on {n : Nat} {q : Nd} {s : Sg} (h : N[n]? = some q) (hk : q.k = 2) (hs : (q.id, s) ∈ S) (hy : y = (lnS s).at x) : Desc N S x y 0 n (.on q.id)
structure TI (S : List (Int × Sg)) (N : List Nd) (P : List Pc) : Prop where
 ok : SOk S
 wf : WfP N P
 val : ∀ (i : Nat) (p : Pc), P[i]? = some p → p.g = false → Val S p.t
 leaf : ∀ (i : Nat) (p : Pc), P[i]? = some p → p.g = false → N[p.n.toNat]? = some (lfN i)
 dist : ∀ (i j : Nat) (p q : Pc), P[i]? = some p → P[j]? = some q → p.g = false → q.g = false → p.t = q.t → i = j
 down : ∀ x y : Rat, (∀ e, EndS S e → x ≠ Xr e) → (∃ (k : Nat) (id : Int) (sg : Sg), (id, sg) ∈ S ∧ (lnS sg).spans x ∧ y = (lnS sg).at x ∧ Desc N S x y k 0 (.on id)) ∨ (∃ (k i : Nat) (p : Pc), P[i]? = some p ∧ p.g = false ∧ InT S p.t x y ∧ Desc N S x y k 0 (.leaf p.n.toNat))
theorem TI.start : TI [] [nd0] [pc0] := by
 have one : ∀ {i : Nat} {p : Pc}, [pc0][i]? = some p → i = 0 ∧ p = pc0 := fun {i p} h => by
  cases i
  ·exact ⟨rfl, by simpa using h.symm⟩
  ·simp at h
 refine ⟨⟨by simp, by simp, by simp, by simp, by simp⟩, ?_, fun i p h _ => ?_, fun i p h _ => ?_, fun i j p q h g _ _ _ => ?_, fun x y _ => ?_⟩
 ·intro p hp
  obtain rfl : p = pc0 := by simpa using hp
  exact ⟨by decide, by decide⟩
 ·obtain ⟨_, rfl⟩ := one h
  exact ⟨fun h => absurd rfl h, fun h => absurd rfl h, (by intro h; cases h), fun h => absurd rfl h, (by intro h; cases h), (by intro h; cases h), (by simp), fun _ => rfl, fun _ => rfl⟩
 ·obtain ⟨rfl, rfl⟩ := one h
  rfl
 ·rw [(one h).1, (one g).1]
 ·right
  exact ⟨0, 0, pc0, rfl, rfl, ⟨⟨(by intro h; cases h), (by intro h; cases h)⟩, fun h => absurd rfl h, fun h => absurd rfl h⟩, .leaf (q := nd0) rfl rfl⟩
theorem chainR {L R : Nat → Rat} {m : Nat} {a b : Rat} {E : List Rat} (hab : a < b) (hne : ∀ k, k < m → L k < R k ∧ a ≤ L k ∧ R k ≤ b) (hs : ∀ k k', k < k' → k' < m → L k ≤ L k')
  (hd : ∀ k k' x, k < m → k' < m → L k < x → x < R k → L k' < x → x < R k' → k = k') (hc : ∀ x, a < x → x < b → x ∉ E → ∃ k, k < m ∧ L k < x ∧ x < R k) :
  0 < m ∧ (0 < m → L 0 = a) ∧ (∀ k, k + 1 < m → R k = L (k + 1)) ∧ (∀ k k', k < k' → k' < m → R k ≤ L k') ∧ (0 < m → R (m - 1) = b) := by
 have pair : ∀ k k', k < k' → k' < m → R k ≤ L k' := by
  intro k k' h1 h2
  by_cases g : R k ≤ L k'
  ·exact g
  exfalso
  have a1 := hne k (by omega)
  have a2 := hne k' h2
  have a3 := hs k k' h1 h2
  by_cases g2 : R k ≤ R k'
  ·have := hd k k' ((L k' + R k) / 2) (by omega) h2 (by grind) (by grind) (by grind) (by grind)
   omega
  ·have := hd k k' ((L k' + R k') / 2) (by omega) h2 (by grind) (by grind) (by grind) (by grind)
   omega
 have m0 : 0 < m := by
  obtain ⟨x, h1, h2, h3⟩ := between hab E
  obtain ⟨k, hk, _⟩ := hc x h1 h2 h3
  omega
 refine ⟨m0, fun _ => ?_, fun k hk => ?_, pair, fun _ => ?_⟩
 ·by_cases g : L 0 = a
  ·exact g
  exfalso
  have h0 := hne 0 m0
  obtain ⟨x, h1, h2, h3⟩ := between (show a < L 0 by grind) E
  obtain ⟨k, hk, g1, g2⟩ := hc x h1 (by grind) h3
  by_cases k0 : k = 0
  ·subst k0; grind
  ·have := hs 0 k (by omega) hk
   grind
 ·have p := pair k (k + 1) (by omega) hk
  by_cases g : R k = L (k + 1)
  ·exact g
  exfalso
  have h0 := hne k (by omega)
  have h1 := hne (k + 1) hk
  obtain ⟨x, x1, x2, x3⟩ := between (show R k < L (k + 1) by grind) E
  obtain ⟨k2, hk2, g1, g2⟩ := hc x (by grind) (by grind) x3
  by_cases c1 : k2 ≤ k
  ·by_cases c2 : k2 = k
   ·subst c2; grind
   ·have := pair k2 k (by omega) (by omega)
    grind
  ·by_cases c2 : k2 = k + 1
   ·subst c2; grind
   ·have := hs (k + 1) k2 (by omega) hk2
    grind
 ·by_cases g : R (m - 1) = b
  ·exact g
  exfalso
  have h0 := hne (m - 1) (by omega)
  obtain ⟨x, x1, x2, x3⟩ := between (show R (m - 1) < b by grind) E
  obtain ⟨k2, hk2, g1, g2⟩ := hc x (by grind) x2 x3
  by_cases c2 : k2 = m - 1
  ·subst c2; grind
  ·have := pair k2 (m - 1) (by omega) (by omega)
   grind
def endsX (S : List (Int × Sg)) : List Rat := S.flatMap fun q => [Xr q.2.a, Xr q.2.b]
theorem endsX_iff {S : List (Int × Sg)} {x : Rat} : x ∉ endsX S ↔ ∀ e, EndS S e → x ≠ Xr e := by
 unfold endsX EndS
 simp only [List.mem_flatMap, List.mem_cons, List.not_mem_nil, or_false, not_exists, not_and]
 constructor
 ·rintro h e ⟨q, hq, rfl | rfl⟩ rfl
  ·exact h q hq (.inl rfl)
  ·exact h q hq (.inr rfl)
 ·rintro h q hq (rfl | rfl)
  ·exact h _ ⟨q, hq, .inl rfl⟩ rfl
  ·exact h _ ⟨q, hq, .inr rfl⟩ rfl
section
variable {S : List (Int × Sg)} {N : List Nd} {P : List Pc} {id : Int} {s : Sg} {all : List Nat}
abbrev tK (P : List Pc) (all : List Nat) (k : Nat) : Tz := (pk P all k).t
structure Cx (S : List (Int × Sg)) (N : List Nd) (P : List Pc) (id : Int) (s : Sg) (all : List Nat) : Prop where
 ok : SOk ((id, s) :: S)
 ti : TI S N P
 cr : CrossP P S s all
theorem Cx.mem (C : Cx S N P id s all) {i : Nat} {p : Pc} (hp : P[i]? = some p) : i ∈ all ↔ p.g = false ∧ Pass S s p.t := by
 rw [C.cr.1.mem_iff]
 unfold crossL
 rw [List.mem_filter, List.mem_range]
 unfold hitAt
 rw [hp]
 simp only
 obtain ⟨t, n, g⟩ := p
 constructor
 ·rintro ⟨_, h⟩
  have hg : g = false := by
   unfold hitB at h
   cases g
   ·rfl
   ·simp at h
  exact (hit_iff C.ok (C.ti.val i _ hp hg)).1 h
 ·intro h
  exact ⟨(List.getElem?_eq_some_iff.1 hp).1, (hit_iff C.ok (C.ti.val i _ hp h.1)).2 h⟩
theorem Cx.nodup (C : Cx S N P id s all) : all.Nodup := (cross_few C.cr).1
theorem Cx.at (C : Cx S N P id s all) {k : Nat} (hk : k < all.length) : ∃ n, all[k]? = some n ∧ P[n]? = some (pk P all k) ∧ (pk P all k).g = false ∧ Pass S s (tK P all k) ∧ Val S (tK P all k) := by
 obtain ⟨n, hn⟩ : ∃ n, all[k]? = some n := ⟨_, List.getElem?_eq_getElem hk⟩
 obtain ⟨p, hp, hg⟩ := (cross_few C.cr).2.1 n (List.mem_of_getElem? hn)
 have e : pk P all k = p := by unfold pk; rw [hn]; show (P[n]?).getD pc0 = p; rw [hp]; rfl
 have := (C.mem hp).1 (List.mem_of_getElem? hn)
 refine ⟨n, hn, by rw [e]; exact hp, by rw [e]; exact hg, ?_, ?_⟩
 ·show Pass S s (pk P all k).t
  rw [e]; exact this.2
 ·show Val S (pk P all k).t
  rw [e]; exact C.ti.val n p hp hg
theorem Cx.val (C : Cx S N P id s all) {k : Nat} (hk : k < all.length) : Val S (tK P all k) := (C.at hk).choose_spec.2.2.2.2
theorem Cx.pass (C : Cx S N P id s all) {k : Nat} (hk : k < all.length) : Pass S s (tK P all k) := (C.at hk).choose_spec.2.2.2.1
theorem Cx.within (C : Cx S N P id s all) {k : Nat} (hk : k < all.length) {x : Rat} (hx : (lnS s).spans x) (ix : InX (tK P all k) x) : InT S (tK P all k) x ((lnS s).at x) := (C.pass hk).all C.ok (C.val hk) hx ix
theorem Cx.new (C : Cx S N P id s all) : InP s.a ∧ InP s.b ∧ Xr s.a < Xr s.b ∧ (lnS s).at (Xr s.a) = Yr s.a ∧ (lnS s).at (Xr s.b) = Yr s.b := by
 obtain ⟨h1, h2, _⟩ := C.ok.rng (id, s) (by simp)
 obtain ⟨h3, h4, h5⟩ := C.ok.ln1 (q := (id, s)) (by simp)
 exact ⟨h1, h2, h3, h4, h5⟩
def lowR (s : Sg) (t : Tz) : Rat := if t.hl = true ∧ Xr s.a < Xr t.l then Xr t.l else Xr s.a
def higR (s : Sg) (t : Tz) : Rat := if t.hr = true ∧ Xr t.r < Xr s.b then Xr t.r else Xr s.b
theorem low_iff {t : Tz} {x : Rat} : lowR s t < x ↔ Xr s.a < x ∧ (t.hl = true → Xr t.l < x) := by
 unfold lowR
 split
 ·rename_i h
  constructor
  ·intro g
   have := h.2
   exact ⟨by grind, fun _ => g⟩
  ·exact fun g => g.2 h.1
 ·rename_i h
  constructor
  ·refine fun g => ⟨g, fun hl => ?_⟩
   have : ¬ Xr s.a < Xr t.l := fun q => h ⟨hl, q⟩
   grind
  ·exact fun g => g.1
theorem hig_iff {t : Tz} {x : Rat} : x < higR s t ↔ x < Xr s.b ∧ (t.hr = true → x < Xr t.r) := by
 unfold higR
 split
 ·rename_i h
  constructor
  ·intro g
   have := h.2
   exact ⟨by grind, fun _ => g⟩
  ·exact fun g => g.2 h.1
 ·rename_i h
  constructor
  ·refine fun g => ⟨g, fun hl => ?_⟩
   have : ¬ Xr t.r < Xr s.b := fun q => h ⟨hl, q⟩
   grind
  ·exact fun g => g.1
theorem in_iff {t : Tz} {x : Rat} : (lowR s t < x ∧ x < higR s t) ↔ (lnS s).spans x ∧ InX t x := by
 rw [low_iff, hig_iff]
 constructor
 ·rintro ⟨⟨h1, h2⟩, h3, h4⟩; exact ⟨⟨h1, h3⟩, h2, h4⟩
 ·rintro ⟨⟨h1, h3⟩, h2, h4⟩; exact ⟨⟨h1, h2⟩, h3, h4⟩
theorem Cx.one (C : Cx S N P id s all) {k k' : Nat} (hk : k < all.length) (hk' : k' < all.length) {x y : Rat} (h : InT S (tK P all k) x y) (h' : InT S (tK P all k') x y) : k = k' := by
 obtain ⟨n, a1, a2, a3, _, a5⟩ := C.at hk
 obtain ⟨n', b1, b2, b3, _, b5⟩ := C.at hk'
 have e := val_uniq C.ti.ok a5 b5 h h'
 have := C.ti.dist n n' _ _ a2 b2 a3 b3 e
 exact (List.getElem?_inj hk C.nodup).1 (by rw [a1, b1, this])
theorem Cx.chain (C : Cx S N P id s all) : 0 < all.length ∧ (0 < all.length → lowR s (tK P all 0) = Xr s.a) ∧ (∀ k, k + 1 < all.length → higR s (tK P all k) = lowR s (tK P all (k + 1))) ∧
  (∀ k k', k < k' → k' < all.length → higR s (tK P all k) ≤ lowR s (tK P all k')) ∧ (0 < all.length → higR s (tK P all (all.length - 1)) = Xr s.b) := by
 obtain ⟨sa, sb, hab, _, _⟩ := C.new
 refine chainR (L := fun k => lowR s (tK P all k)) (R := fun k => higR s (tK P all k)) (m := all.length) (E := endsX S) hab (fun k hk => ?_) (fun k k' h1 h2 => ?_) (fun k k' x h1 h2 h3 h4 h5 h6 => ?_) (fun x h1 h2 h3 => ?_)
 ·obtain ⟨x, h1, h2⟩ := C.pass hk
  have := in_iff.2 ⟨h1, h2.ix⟩
  refine ⟨by grind, ?_, ?_⟩
  ·unfold lowR; split
   ·rename_i h; exact Rat.le_of_lt h.2
   ·exact Rat.le_refl
  ·unfold higR; split
   ·rename_i h; exact Rat.le_of_lt h.2
   ·exact Rat.le_refl
 ·
  obtain ⟨n, a1, a2, _⟩ := C.at (show k < all.length by omega)
  obtain ⟨n', b1, b2, _⟩ := C.at h2
  have hs := C.cr.2
  unfold SortC at hs
  rw [List.pairwise_iff_getElem] at hs
  have hh := hs k k' (by omega) h2 h1 (pk P all k) (pk P all k') (by rw [(List.getElem?_eq_some_iff.1 a1).2]; exact a2) (by rw [(List.getElem?_eq_some_iff.1 b1).2]; exact b2)
  have hn : ¬ ltT (tK P all k') (tK P all k) = true := by show ¬ ltT (pk P all k').t (pk P all k).t = true; rw [hh]; simp
  rw [ltT_iff] at hn
  unfold lowR
  have v1 := C.val (show k < all.length by omega)
  have v2 := C.val h2
  by_cases g : (tK P all k).hl = true ∧ Xr s.a < Xr (tK P all k).l
  ·rw [if_pos g]
   have hl' : (tK P all k').hl = true := by
    cases e : (tK P all k').hl
    ·exact absurd (.inl ⟨e, g.1⟩) hn
    ·rfl
   have nl : ¬ lessB (tK P all k').l (tK P all k).l = true := fun q => hn (.inr ⟨hl', g.1, q⟩)
   rw [less_X (C.ti.ok.endIn (v2.wl hl').1) (C.ti.ok.endIn (v1.wl g.1).1)] at nl
   have g2 := g.2
   rw [if_pos ⟨hl', by grind⟩]
   grind
  ·rw [if_neg g]
   split
   ·rename_i h; exact Rat.le_of_lt h.2
   ·exact Rat.le_refl
 ·obtain ⟨p1, p2⟩ := in_iff.1 ⟨h3, h4⟩
  obtain ⟨q1, q2⟩ := in_iff.1 ⟨h5, h6⟩
  exact C.one h1 h2 (C.within h1 p1 p2) (C.within h2 q1 q2)
 ·have sp : (lnS s).spans x := ⟨h1, h2⟩
  rcases C.ti.down x ((lnS s).at x) (endsX_iff.1 h3) with ⟨_, id', sg, g1, g2, g3, _⟩ | ⟨_, i, p, g1, g2, g3, _⟩
  ·exact absurd g3 (C.ok.sep (id, s) (by simp) (id', sg) (by simp [g1]) (fun e => C.ok.fresh g1 (by rw [← e])) x sp g2)
  ·have hm := (C.mem g1).2 ⟨g2, x, sp, g3⟩
   obtain ⟨k, hk⟩ := List.getElem?_of_mem hm
   have hkl := (List.getElem?_eq_some_iff.1 hk).1
   have e : pk P all k = p := by unfold pk; rw [hk]; show (P[i]?).getD pc0 = p; rw [g1]; rfl
   refine ⟨k, hkl, ?_⟩
   refine in_iff.2 ⟨sp, ?_⟩
   show InX (pk P all k).t x
   rw [e]; exact g3.ix
theorem Cx.link (C : Cx S N P id s all) {k : Nat} (hk : k + 1 < all.length) : (tK P all k).hr = true ∧ (tK P all (k + 1)).hl = true ∧ (tK P all k).r = (tK P all (k + 1)).l ∧ Xr s.a < Xr (tK P all (k + 1)).l ∧ Xr (tK P all (k + 1)).l < Xr s.b ∧
  lowR s (tK P all (k + 1)) = Xr (tK P all (k + 1)).l ∧ higR s (tK P all k) = Xr (tK P all (k + 1)).l := by
 obtain ⟨m0, c1, c2, c3, c4⟩ := C.chain
 have e := c2 k hk
 obtain ⟨x1, p1, q1⟩ := C.pass (show k < all.length by omega)
 obtain ⟨x2, p2, q2⟩ := C.pass hk
 have i1 := in_iff.2 ⟨p1, q1.ix⟩
 have i2 := in_iff.2 ⟨p2, q2.ix⟩
 have a1 : Xr s.a < x1 := p1.1
 have b2 : x2 < Xr s.b := p2.2
 have hl : (tK P all (k + 1)).hl = true ∧ Xr s.a < Xr (tK P all (k + 1)).l := by
  by_cases g : (tK P all (k + 1)).hl = true ∧ Xr s.a < Xr (tK P all (k + 1)).l
  ·exact g
  ·exfalso
   have : lowR s (tK P all (k + 1)) = Xr s.a := by unfold lowR; rw [if_neg g]
   grind
 have hr : (tK P all k).hr = true ∧ Xr (tK P all k).r < Xr s.b := by
  by_cases g : (tK P all k).hr = true ∧ Xr (tK P all k).r < Xr s.b
  ·exact g
  ·exfalso
   have : higR s (tK P all k) = Xr s.b := by unfold higR; rw [if_neg g]
   grind
 have e1 : lowR s (tK P all (k + 1)) = Xr (tK P all (k + 1)).l := by unfold lowR; rw [if_pos hl]
 have e2 : higR s (tK P all k) = Xr (tK P all k).r := by unfold higR; rw [if_pos hr]
 have ep := C.ti.ok.endEq ((C.val (show k < all.length by omega)).wr hr.1).1 ((C.val hk).wl hl.1).1 (by rw [← e1, ← e2]; exact e)
 exact ⟨hr.1, hl.1, ep, hl.2, by rw [← ep]; exact hr.2, e1, by rw [e2, ep]⟩
theorem Cx.first (C : Cx S N P id s all) : (tK P all 0).hl = true → Xr (tK P all 0).l ≤ Xr s.a := by
 intro h
 obtain ⟨m0, c1, _⟩ := C.chain
 have := c1 m0
 unfold lowR at this
 split at this
 ·rename_i g; have := g.2; grind
 ·rename_i g
  have : ¬ Xr s.a < Xr (tK P all 0).l := fun q => g ⟨h, q⟩
  grind
theorem Cx.last (C : Cx S N P id s all) : (tK P all (all.length - 1)).hr = true → Xr s.b ≤ Xr (tK P all (all.length - 1)).r := by
 intro h
 obtain ⟨m0, _, _, _, c1⟩ := C.chain
 have := c1 m0
 unfold higR at this
 split at this
 ·rename_i g; have := g.2; grind
 ·rename_i g
  have : ¬ Xr (tK P all (all.length - 1)).r < Xr s.b := fun q => g ⟨h, q⟩
  grind
theorem Cx.lftX (C : Cx S N P id s all) {k : Nat} (hk : k < all.length) : Xr (lftK P s all k) = lowR s (tK P all k) := by
 obtain ⟨m0, c1, _⟩ := C.chain
 unfold lftK
 by_cases h : k = 0
 ·subst h; rw [if_pos rfl, c1 m0]
 ·rw [if_neg h]
  obtain ⟨j, rfl⟩ : ∃ j, k = j + 1 := ⟨k - 1, by omega⟩
  exact (C.link hk).2.2.2.2.2.1.symm
theorem Cx.rgtX (C : Cx S N P id s all) {k : Nat} (hk : k < all.length) : Xr (rgtK P s all k) = higR s (tK P all k) := by
 obtain ⟨m0, _, _, _, c1⟩ := C.chain
 unfold rgtK
 by_cases h : k + 1 = all.length
 ·rw [if_pos h, ← c1 m0, show all.length - 1 = k by omega]
 ·rw [if_neg h]
  have := C.link (show k + 1 < all.length by omega)
  rw [this.2.2.2.2.2.2, ← this.2.2.1]
theorem Cx.mono (C : Cx S N P id s all) {k k' : Nat} (h : k < k') (hk : k' < all.length) : Xr (lftK P s all k) < Xr (lftK P s all k') ∧ Xr (rgtK P s all k) ≤ Xr (lftK P s all k') := by
 obtain ⟨m0, c1, c2, c3, c4⟩ := C.chain
 have h1 := c3 k k' h hk
 obtain ⟨x1, p1, q1⟩ := C.pass (show k < all.length by omega)
 have i1 := in_iff.2 ⟨p1, q1.ix⟩
 rw [C.lftX (by omega), C.lftX hk, C.rgtX (by omega)]
 exact ⟨by grind, h1⟩
theorem Cx.ctx (C : Cx S N P id s all) : CtxK N P id s all where
 pcs k hk := by
  obtain ⟨n, h1, h2, _⟩ := C.at hk
  exact ⟨n, h1, h2⟩
 nodup := C.nodup
 wf := C.ti.wf
 nn k k' hk hk' h := by
  obtain ⟨n, a1, a2, a3, _⟩ := C.at hk
  obtain ⟨n', b1, b2, b3, _⟩ := C.at hk'
  have l1 := C.ti.leaf n _ a2 a3
  have l2 := C.ti.leaf n' _ b2 b3
  rw [h] at l1
  have := l1.symm.trans l2
  injection this with this
  unfold lfN at this
  injection this with _ this
  have e : n = n' := by omega
  exact (List.getElem?_inj hk C.nodup).1 (by rw [a1, b1, e])
 ids k hk := ⟨((C.val hk).notId C.ok).2, ((C.val hk).notId C.ok).1⟩
 lft k k' hk hk' h := by
  rcases Nat.lt_trichotomy k k' with q | q | q
  ·have := (C.mono q hk').1
   rw [h] at this
   exact absurd this (by grind)
  ·exact q
  ·have := (C.mono q hk).1
   rw [h] at this
   exact absurd this (by grind)
 ab := by
  obtain ⟨sa, sb, hab, _⟩ := C.new
  cases e : lessB s.b s.a
  ·rfl
  ·rw [less_X sb sa] at e
   exact absurd e (by grind)
end
variable {S : List (Int × Sg)} {N : List Nd} {P : List Pc} {id : Int} {s : Sg} {all : List Nat} {t : Tz}
theorem botL_cons (h : t.bot ≠ id) : botL ((id, s) :: S) t = botL S t := by unfold botL; rw [sgOf_cons h]
theorem topL_cons (h : t.top ≠ id) : topL ((id, s) :: S) t = topL S t := by unfold topL; rw [sgOf_cons h]
theorem inT_cons (h1 : t.bot ≠ id) (h2 : t.top ≠ id) {x y : Rat} : InT ((id, s) :: S) t x y ↔ InT S t x y := by
 constructor
 ·rintro ⟨a, b, c⟩
  rw [botL_cons h1] at b
  rw [topL_cons h2] at c
  exact ⟨a, b, c⟩
 ·rintro ⟨a, b, c⟩
  rw [← botL_cons (s := s) (S := S) h1] at b
  rw [← topL_cons (s := s) (S := S) h2] at c
  exact ⟨a, b, c⟩
theorem EndS.cons {e : Pt} (h : EndS S e) : EndS ((id, s) :: S) e := by
 obtain ⟨q, hq, he⟩ := h
 exact ⟨q, by simp [hq], he⟩
theorem endS_a : EndS ((id, s) :: S) s.a := ⟨(id, s), by simp, .inl rfl⟩
theorem endS_b : EndS ((id, s) :: S) s.b := ⟨(id, s), by simp, .inr rfl⟩
theorem Val.keep (O : SOk ((id, s) :: S)) (V : Val S t) (hp : ¬ Pass S s t) : Val ((id, s) :: S) t := by
 obtain ⟨n1, n2⟩ := V.notId O
 refine ⟨fun h => ?_, fun h => ?_, V.lr, fun h1 h2 x hx => ?_, fun h => ?_, fun h => ?_, fun q hq x hx hI => ?_, V.zl, V.zr⟩
 ·rw [sgOf_cons n1]
  obtain ⟨a, b⟩ := V.bot h
  exact ⟨by simp [a], b⟩
 ·rw [sgOf_cons n2]
  obtain ⟨a, b⟩ := V.top h
  exact ⟨by simp [a], b⟩
 ·rw [botL_cons n1, topL_cons n2]; exact V.bt h1 h2 x hx
 ·rw [botL_cons n1, topL_cons n2]
  obtain ⟨a, b⟩ := V.wl h
  exact ⟨a.cons, b⟩
 ·rw [botL_cons n1, topL_cons n2]
  obtain ⟨a, b⟩ := V.wr h
  exact ⟨a.cons, b⟩
 ·rw [inT_cons n1 n2] at hI
  rcases List.mem_cons.1 hq with rfl | hq
  ·exact hp ⟨x, hx, hI⟩
  ·exact V.free q hq x hx hI
theorem sep_le {u v : Ln} (h : u.Sep v) {x y : Rat} (ux : u.spans x) (vx : v.spans x) (uy : u.near y) (vy : v.near y) (hlt : u.at x < v.at x) : u.at y ≤ v.at y := by
 by_cases e : u.at y = v.at y
 ·rw [e]; exact Rat.le_refl
 ·exact Rat.le_of_lt ((h.ends ux vx uy vy e).1 hlt)
theorem Cx.sepB (C : Cx S N P id s all) {k : Nat} (hk : k < all.length) (h : (tK P all k).bot ≠ 0) : (botL S (tK P all k)).Sep (lnS s) := by
 have hm := ((C.val hk).bot h).1
 exact C.ok.sep _ (List.mem_cons_of_mem _ hm) (id, s) (by simp) fun e => C.ok.fresh hm (congrArg Prod.fst e)
theorem Cx.sepT (C : Cx S N P id s all) {k : Nat} (hk : k < all.length) (h : (tK P all k).top ≠ 0) : (lnS s).Sep (topL S (tK P all k)) := by
 have hm := ((C.val hk).top h).1
 exact C.ok.sep (id, s) (by simp) (_, sgOf S (tK P all k).top) (List.mem_cons_of_mem _ hm) fun e => C.ok.fresh hm (congrArg Prod.fst e).symm
theorem Cx.nearS (C : Cx S N P id s all) : (lnS s).near (Xr s.a) ∧ (lnS s).near (Xr s.b) := by
 have := C.new.2.2.1
 exact ⟨⟨Rat.le_refl, show Xr s.a ≤ Xr s.b by grind⟩, ⟨show Xr s.a ≤ Xr s.b by grind, Rat.le_refl⟩⟩
theorem Cx.valL (C : Cx S N P id s all) (h : cbK P s all 0 = true) : Val ((id, s) :: S) (tzK P id s all .L) := by
 have m0 := C.chain.1
 have V := C.val m0
 obtain ⟨n1, n2⟩ := V.notId C.ok
 obtain ⟨sa, sb, hab, ya, yb⟩ := C.new
 obtain ⟨x0, p0, q0⟩ := C.pass m0
 have a0 : Xr s.a < x0 := p0.1
 have hla : (tK P all 0).hl = true → Xr (tK P all 0).l < Xr s.a := fun hl => by
  unfold cbK at h
  simp only [Bool.and_eq_true, Bool.or_eq_true, Bool.not_eq_true'] at h
  rcases h.2 with g | g
  ·exact absurd (g.symm.trans hl) (by simp)
  ·exact (less_X (C.ti.ok.endIn (V.wl hl).1) sa).1 g
 have har : (tK P all 0).hr = true → Xr s.a < Xr (tK P all 0).r := fun hr => by have := q0.ix.2 hr; grind
 have sub : ∀ {x : Rat}, InX (tzK P id s all .L) x → InX (tK P all 0) x ∧ x < Xr s.a := fun {x} hx => by
  have hxa : x < Xr s.a := hx.2 rfl
  exact ⟨⟨hx.1, fun hr => by have := har hr; grind⟩, hxa⟩
 have eb : botL ((id, s) :: S) (tzK P id s all .L) = botL S (tK P all 0) := botL_cons n1
 have et : topL ((id, s) :: S) (tzK P id s all .L) = topL S (tK P all 0) := topL_cons n2
 refine ⟨fun hb => ?_, fun hb => ?_, fun h1 _ => Xr_lt.1 (hla h1), fun h1 h2 x hx => ?_, fun hl => ?_, fun _ => ⟨endS_a, fun hb => ?_, fun hb => ?_⟩, fun q hq x hx hI => ?_, V.zl, fun h => by cases h⟩
 ·obtain ⟨b1, b2, b3, b4, b5⟩ := V.bot hb
  have e : sgOf ((id, s) :: S) (tzK P id s all .L).bot = sgOf S (tK P all 0).bot := sgOf_cons n1
  rw [e]
  refine ⟨List.mem_cons_of_mem _ b1, b2, rfl, b4, ?_⟩
  have := Xr_lt.1 (har b3)
  show Xi s.a ≤ _
  omega
 ·obtain ⟨b1, b2, b3, b4, b5⟩ := V.top hb
  have e : sgOf ((id, s) :: S) (tzK P id s all .L).top = sgOf S (tK P all 0).top := sgOf_cons n2
  rw [e]
  refine ⟨List.mem_cons_of_mem _ b1, b2, rfl, b4, ?_⟩
  have := Xr_lt.1 (har b3)
  show Xi s.a ≤ _
  omega
 ·rw [eb, et]; exact V.bt h1 h2 x (sub hx).1
 ·rw [eb, et]
  obtain ⟨w1, w2⟩ := V.wl hl
  exact ⟨w1.cons, w2⟩
 ·rw [eb]
  obtain ⟨b1, b2, b3, b4, b5⟩ := V.bot hb
  have sp := V.botSp hb (x := Xr s.a) ⟨fun hl => hla hl, fun hr => har hr⟩
  have := sep_le (C.sepB m0 hb) (V.botSp hb q0.ix) p0 ⟨Rat.le_of_lt sp.1, Rat.le_of_lt sp.2⟩ C.nearS.1 (q0.lo hb)
  rw [ya] at this
  exact this
 ·rw [et]
  have sp := V.topSp hb (x := Xr s.a) ⟨fun hl => hla hl, fun hr => har hr⟩
  have := sep_le (C.sepT m0 hb) p0 (V.topSp hb q0.ix) C.nearS.1 ⟨Rat.le_of_lt sp.1, Rat.le_of_lt sp.2⟩ (q0.hi hb)
  rw [ya] at this
  exact this
 ·obtain ⟨i1, i2⟩ := sub hI.ix
  rcases List.mem_cons.1 hq with rfl | hq
  ·have : Xr s.a < x := hx.1
   grind
  ·exact V.free q hq x hx ⟨i1, fun hb => by have := hI.lo hb; rw [eb] at this; exact this, fun hb => by have := hI.hi hb; rw [et] at this; exact this⟩
theorem Cx.valR (C : Cx S N P id s all) (h : ceK P s all (all.length - 1) = true) : Val ((id, s) :: S) (tzK P id s all .R) := by
 have m0 := C.chain.1
 have m1 : all.length - 1 < all.length := by omega
 have V := C.val m1
 obtain ⟨n1, n2⟩ := V.notId C.ok
 obtain ⟨sa, sb, hab, ya, yb⟩ := C.new
 obtain ⟨x0, p0, q0⟩ := C.pass m1
 have a0 : x0 < Xr s.b := p0.2
 have hbr : (tK P all (all.length - 1)).hr = true → Xr s.b < Xr (tK P all (all.length - 1)).r := fun hl => by
  unfold ceK at h
  simp only [Bool.and_eq_true, Bool.or_eq_true, Bool.not_eq_true'] at h
  rcases h.2 with g | g
  ·exact absurd (g.symm.trans hl) (by simp)
  ·exact (less_X sb (C.ti.ok.endIn (V.wr hl).1)).1 g
 have hlb : (tK P all (all.length - 1)).hl = true → Xr (tK P all (all.length - 1)).l < Xr s.b := fun hr => by have := q0.ix.1 hr; grind
 have sub : ∀ {x : Rat}, InX (tzK P id s all .R) x → InX (tK P all (all.length - 1)) x ∧ Xr s.b < x := fun {x} hx => by
  have hxa : Xr s.b < x := hx.1 rfl
  exact ⟨⟨fun hr => by have := hlb hr; grind, hx.2⟩, hxa⟩
 have eb : botL ((id, s) :: S) (tzK P id s all .R) = botL S (tK P all (all.length - 1)) := botL_cons n1
 have et : topL ((id, s) :: S) (tzK P id s all .R) = topL S (tK P all (all.length - 1)) := topL_cons n2
 refine ⟨fun hb => ?_, fun hb => ?_, fun _ h1 => Xr_lt.1 (hbr h1), fun h1 h2 x hx => ?_, fun _ => ⟨endS_b, fun hb => ?_, fun hb => ?_⟩, fun hl => ?_, fun q hq x hx hI => ?_, fun h => (by cases h), V.zr⟩
 ·obtain ⟨b1, b2, b3, b4, b5⟩ := V.bot hb
  have e : sgOf ((id, s) :: S) (tzK P id s all .R).bot = sgOf S (tK P all (all.length - 1)).bot := sgOf_cons n1
  rw [e]
  refine ⟨List.mem_cons_of_mem _ b1, rfl, b3, ?_, b5⟩
  have := Xr_lt.1 (hlb b2)
  show _ ≤ Xi s.b
  omega
 ·obtain ⟨b1, b2, b3, b4, b5⟩ := V.top hb
  have e : sgOf ((id, s) :: S) (tzK P id s all .R).top = sgOf S (tK P all (all.length - 1)).top := sgOf_cons n2
  rw [e]
  refine ⟨List.mem_cons_of_mem _ b1, rfl, b3, ?_, b5⟩
  have := Xr_lt.1 (hlb b2)
  show _ ≤ Xi s.b
  omega
 ·rw [eb, et]; exact V.bt h1 h2 x (sub hx).1
 ·rw [eb]
  have sp := V.botSp hb (x := Xr s.b) ⟨fun hl => hlb hl, fun hr => hbr hr⟩
  have := sep_le (C.sepB m1 hb) (V.botSp hb q0.ix) p0 ⟨Rat.le_of_lt sp.1, Rat.le_of_lt sp.2⟩ C.nearS.2 (q0.lo hb)
  rw [yb] at this
  exact this
 ·rw [et]
  have sp := V.topSp hb (x := Xr s.b) ⟨fun hl => hlb hl, fun hr => hbr hr⟩
  have := sep_le (C.sepT m1 hb) p0 (V.topSp hb q0.ix) C.nearS.2 ⟨Rat.le_of_lt sp.1, Rat.le_of_lt sp.2⟩ (q0.hi hb)
  rw [yb] at this
  exact this
 ·rw [eb, et]
  obtain ⟨w1, w2⟩ := V.wr hl
  exact ⟨w1.cons, w2⟩
 ·obtain ⟨i1, i2⟩ := sub hI.ix
  rcases List.mem_cons.1 hq with rfl | hq
  ·have : x < Xr s.b := hx.2
   grind
  ·exact V.free q hq x hx ⟨i1, fun hb => by have := hI.lo hb; rw [eb] at this; exact this, fun hb => by have := hI.hi hb; rw [et] at this; exact this⟩
theorem Cx.wall (C : Cx S N P id s all) {k : Nat} (hk : k + 1 < all.length) : (lnS s).spans (Xr (tK P all (k + 1)).l) ∧ (lnS s).at (Xr (tK P all (k + 1)).l) ≠ Yr (tK P all (k + 1)).l ∧
  (upK P s all (k + 1) = true ↔ (lnS s).at (Xr (tK P all (k + 1)).l) < Yr (tK P all (k + 1)).l) ∧ (dnK P s all (k + 1) = true ↔ Yr (tK P all (k + 1)).l < (lnS s).at (Xr (tK P all (k + 1)).l)) := by
 obtain ⟨l1, l2, l3, l4, l5, _⟩ := C.link hk
 obtain ⟨sa, sb, hab, ya, yb⟩ := C.new
 have sp : (lnS s).spans (Xr (tK P all (k + 1)).l) := ⟨l4, l5⟩
 obtain ⟨q, hq, he⟩ := ((C.val hk).wl l2).1
 have ts := turn_sign (c := (tK P all (k + 1)).l) sa sb (C.ti.ok.endIn ((C.val hk).wl l2).1) hab
 refine ⟨sp, C.ok.off (id, s) (by simp) q (by simp [hq]) _ he sp, ?_, ?_⟩
 ·unfold upK; rw [decide_eq_true_eq]; exact ts.1
 ·unfold dnK; rw [decide_eq_true_eq]; exact ts.2.1
theorem Cx.topGo (C : Cx S N P id s all) {k j : Nat} (hk : k + 1 < all.length) (hj : j = k ∨ j = k + 1) (hd : Yr (tK P all (k + 1)).l < (lnS s).at (Xr (tK P all (k + 1)).l)) (ht : (tK P all j).top ≠ 0) :
  (topL S (tK P all j)).spans (Xr (tK P all (k + 1)).l) ∧ (lnS s).at (Xr (tK P all (k + 1)).l) < (topL S (tK P all j)).at (Xr (tK P all (k + 1)).l) := by
 obtain ⟨l1, l2, l3, l4, l5, _⟩ := C.link hk
 obtain ⟨w1, w2, _⟩ := C.wall hk
 have hjl : j < all.length := by omega
 have V := C.val hjl
 obtain ⟨x0, p0, q0⟩ := C.pass hjl
 obtain ⟨t1, t2, t3, t4, t5⟩ := V.top ht
 have hln := C.ti.ok.ln1 t1
 simp only at hln
 have s0 := V.topSp ht q0.ix
 have wall : Yr (tK P all (k + 1)).l ≤ (topL S (tK P all j)).at (Xr (tK P all (k + 1)).l) := by
  rcases hj with rfl | rfl
  ·have := (V.wr l1).2.2 ht
   rw [l3] at this; exact this
  ·exact (V.wl l2).2.2 ht
 have nr : (topL S (tK P all j)).near (Xr (tK P all (k + 1)).l) := by
  have a1 := Xr_le.2 t4
  have a2 := Xr_le.2 t5
  have a3 := Xr_lt.2 (V.lr t2 t3)
  unfold topL
  rcases hj with rfl | rfl
  ·rw [l3] at a2 a3
   exact ⟨show Xr _ ≤ _ by grind, show _ ≤ Xr _ by grind⟩
  ·exact ⟨show Xr _ ≤ _ by grind, show _ ≤ Xr _ by grind⟩
 have ne : (lnS s).at (Xr (tK P all (k + 1)).l) ≠ (topL S (tK P all j)).at (Xr (tK P all (k + 1)).l) ∨ (lnS s).at (Xr (tK P all (k + 1)).l) = (topL S (tK P all j)).at (Xr (tK P all (k + 1)).l) := by grind
 have le := sep_le (C.sepT hjl ht) p0 s0 ⟨Rat.le_of_lt w1.1, Rat.le_of_lt w1.2⟩ nr (q0.hi ht)
 have sp : (topL S (tK P all j)).spans (Xr (tK P all (k + 1)).l) := by
  have hw := ((C.val hk).wl l2).1
  have e1 : (sgOf S (tK P all j).top).a = (tK P all (k + 1)).l → False := fun e => by
   have : (topL S (tK P all j)).at (Xr (tK P all (k + 1)).l) = Yr (tK P all (k + 1)).l := by rw [← e]; exact hln.2.1
   grind
  have e2 : (sgOf S (tK P all j).top).b = (tK P all (k + 1)).l → False := fun e => by
   have : (topL S (tK P all j)).at (Xr (tK P all (k + 1)).l) = Yr (tK P all (k + 1)).l := by rw [← e]; exact hln.2.2
   grind
  have n1 : Xr (sgOf S (tK P all j).top).a ≠ Xr (tK P all (k + 1)).l := fun e => e1 (C.ti.ok.endEq ⟨_, t1, .inl rfl⟩ hw e)
  have n2 : Xr (sgOf S (tK P all j).top).b ≠ Xr (tK P all (k + 1)).l := fun e => e2 (C.ti.ok.endEq ⟨_, t1, .inr rfl⟩ hw e)
  have g1 : Xr (sgOf S (tK P all j).top).a ≤ Xr (tK P all (k + 1)).l := nr.1
  have g2 : Xr (tK P all (k + 1)).l ≤ Xr (sgOf S (tK P all j).top).b := nr.2
  exact ⟨show Xr (sgOf S (tK P all j).top).a < _ by grind, show _ < Xr (sgOf S (tK P all j).top).b by grind⟩
 exact ⟨sp, (C.sepT hjl ht).keeps p0 s0 w1 sp (q0.hi ht)⟩
theorem Cx.botGo (C : Cx S N P id s all) {k j : Nat} (hk : k + 1 < all.length) (hj : j = k ∨ j = k + 1) (hd : (lnS s).at (Xr (tK P all (k + 1)).l) < Yr (tK P all (k + 1)).l) (ht : (tK P all j).bot ≠ 0) :
  (botL S (tK P all j)).spans (Xr (tK P all (k + 1)).l) ∧ (botL S (tK P all j)).at (Xr (tK P all (k + 1)).l) < (lnS s).at (Xr (tK P all (k + 1)).l) := by
 obtain ⟨l1, l2, l3, l4, l5, _⟩ := C.link hk
 obtain ⟨w1, w2, _⟩ := C.wall hk
 have hjl : j < all.length := by omega
 have V := C.val hjl
 obtain ⟨x0, p0, q0⟩ := C.pass hjl
 obtain ⟨t1, t2, t3, t4, t5⟩ := V.bot ht
 have hln := C.ti.ok.ln1 t1
 simp only at hln
 have s0 := V.botSp ht q0.ix
 have wall : (botL S (tK P all j)).at (Xr (tK P all (k + 1)).l) ≤ Yr (tK P all (k + 1)).l := by
  rcases hj with rfl | rfl
  ·have := (V.wr l1).2.1 ht
   rw [l3] at this; exact this
  ·exact (V.wl l2).2.1 ht
 have nr : (botL S (tK P all j)).near (Xr (tK P all (k + 1)).l) := by
  have a1 := Xr_le.2 t4
  have a2 := Xr_le.2 t5
  have a3 := Xr_lt.2 (V.lr t2 t3)
  unfold botL
  rcases hj with rfl | rfl
  ·rw [l3] at a2 a3
   exact ⟨show Xr _ ≤ _ by grind, show _ ≤ Xr _ by grind⟩
  ·exact ⟨show Xr _ ≤ _ by grind, show _ ≤ Xr _ by grind⟩
 have le := sep_le (C.sepB hjl ht) s0 p0 nr ⟨Rat.le_of_lt w1.1, Rat.le_of_lt w1.2⟩ (q0.lo ht)
 have sp : (botL S (tK P all j)).spans (Xr (tK P all (k + 1)).l) := by
  have hw := ((C.val hk).wl l2).1
  have e1 : (sgOf S (tK P all j).bot).a = (tK P all (k + 1)).l → False := fun e => by
   have : (botL S (tK P all j)).at (Xr (tK P all (k + 1)).l) = Yr (tK P all (k + 1)).l := by rw [← e]; exact hln.2.1
   grind
  have e2 : (sgOf S (tK P all j).bot).b = (tK P all (k + 1)).l → False := fun e => by
   have : (botL S (tK P all j)).at (Xr (tK P all (k + 1)).l) = Yr (tK P all (k + 1)).l := by rw [← e]; exact hln.2.2
   grind
  have n1 : Xr (sgOf S (tK P all j).bot).a ≠ Xr (tK P all (k + 1)).l := fun e => e1 (C.ti.ok.endEq ⟨_, t1, .inl rfl⟩ hw e)
  have n2 : Xr (sgOf S (tK P all j).bot).b ≠ Xr (tK P all (k + 1)).l := fun e => e2 (C.ti.ok.endEq ⟨_, t1, .inr rfl⟩ hw e)
  have g1 : Xr (sgOf S (tK P all j).bot).a ≤ Xr (tK P all (k + 1)).l := nr.1
  have g2 : Xr (tK P all (k + 1)).l ≤ Xr (sgOf S (tK P all j).bot).b := nr.2
  exact ⟨show Xr (sgOf S (tK P all j).bot).a < _ by grind, show _ < Xr (sgOf S (tK P all j).bot).b by grind⟩
 exact ⟨sp, (C.sepB hjl ht).keeps s0 p0 sp w1 (q0.lo ht)⟩
end Go.Proofs.YtlhmjhildlnokaaGreat
