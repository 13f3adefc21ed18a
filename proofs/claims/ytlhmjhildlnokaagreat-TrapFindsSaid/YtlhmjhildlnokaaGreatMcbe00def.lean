/-
  The order of all trapezes.
-/
import Derived.Test.YtlhmjhildlnokaaGreatM4f5187dd
import Derived.Test.YtlhmjhildlnokaaGreatM235ebbbf
import Derived.Test.YtlhmjhildlnokaaGreatM4a50d798
import Derived.Test.YtlhmjhildlnokaaGreatM01095c5b
import Derived.Test.YtlhmjhildlnokaaGreatMfa190596
namespace Go.Proofs.YtlhmjhildlnokaaGreat
set_option linter.unusedVariables false
set_option linter.unusedSimpArgs false
open Go.RowKit Go.Sort Go.Shelf
variable {S : List (Int × Sg)} {N : List Nd} {P : List Pc} {id : Int} {s : Sg} {all : List Nat} {t : Tz}
theorem Cx.nearR (C : Cx S N P id s all) {k : Nat} (hk : k + 1 < all.length) {Q : Rat → Prop} (h : Nr (Xr (tK P all (k + 1)).l) Q) : ∃ x, Xr (tK P all (k + 1)).l < x ∧ (lnS s).spans x ∧ InX (tK P all (k + 1)) x ∧ Q x := by
 obtain ⟨l1, l2, l3, l4, l5, l6, _⟩ := C.link hk
 obtain ⟨x0, p0, q0⟩ := C.pass hk
 have i0 := in_iff.2 ⟨p0, q0.ix⟩
 rw [l6] at i0
 obtain ⟨x, h1, h2, h3⟩ := (h.and (Nr.lt (show Xr (tK P all (k + 1)).l < higR s (tK P all (k + 1)) by grind))).right
 obtain ⟨g1, g2⟩ := in_iff.1 ⟨by rw [l6]; exact h1, h3⟩
 exact ⟨x, h1, g1, g2, h2⟩
theorem Cx.nearL (C : Cx S N P id s all) {k : Nat} (hk : k + 1 < all.length) {Q : Rat → Prop} (h : Nr (Xr (tK P all (k + 1)).l) Q) : ∃ x, x < Xr (tK P all (k + 1)).l ∧ (lnS s).spans x ∧ InX (tK P all k) x ∧ Q x := by
 obtain ⟨l1, l2, l3, l4, l5, l6, l7⟩ := C.link hk
 obtain ⟨x0, p0, q0⟩ := C.pass (show k < all.length by omega)
 have i0 := in_iff.2 ⟨p0, q0.ix⟩
 rw [l7] at i0
 obtain ⟨x, h1, h2, h3⟩ := (h.and (Nr.gt (show lowR s (tK P all k) < Xr (tK P all (k + 1)).l by grind))).left
 obtain ⟨g1, g2⟩ := in_iff.1 ⟨h3, by rw [l7]; exact h1⟩
 exact ⟨x, h1, g1, g2, h2⟩
theorem Nr.span {u : Ln} {a : Rat} (h : u.spans a) : Nr a fun x => u.spans x := (Nr.gt h.1).and (Nr.lt h.2)
theorem Cx.capT (C : Cx S N P id s all) {k : Nat} (hk : k < all.length) {x : Rat} (p : (lnS s).spans x) (i : InX (tK P all k) x) {q : Int × Sg} (hq : q ∈ S) (sp : (lnS q.2).spans x) (h : (lnS s).at x < (lnS q.2).at x) :
  (tK P all k).top ≠ 0 ∧ (topL S (tK P all k)).at x ≤ (lnS q.2).at x := by
 have w := C.within hk p i
 have f := (C.val hk).free q hq x sp
 have hb : (tK P all k).bot ≠ 0 → (botL S (tK P all k)).at x < (lnS q.2).at x := fun h0 => by have := w.lo h0; grind
 constructor
 ·intro e
  exact f ⟨i, hb, fun h0 => absurd e h0⟩
 ·by_cases g : (topL S (tK P all k)).at x ≤ (lnS q.2).at x
  ·exact g
  ·exact absurd ⟨i, hb, fun _ => by grind⟩ f
theorem Cx.capB (C : Cx S N P id s all) {k : Nat} (hk : k < all.length) {x : Rat} (p : (lnS s).spans x) (i : InX (tK P all k) x) {q : Int × Sg} (hq : q ∈ S) (sp : (lnS q.2).spans x) (h : (lnS q.2).at x < (lnS s).at x) :
  (tK P all k).bot ≠ 0 ∧ (lnS q.2).at x ≤ (botL S (tK P all k)).at x := by
 have w := C.within hk p i
 have f := (C.val hk).free q hq x sp
 have hb : (tK P all k).top ≠ 0 → (lnS q.2).at x < (topL S (tK P all k)).at x := fun h0 => by have := w.hi h0; grind
 constructor
 ·intro e
  exact f ⟨i, fun h0 => absurd e h0, hb⟩
 ·by_cases g : (lnS q.2).at x ≤ (botL S (tK P all k)).at x
  ·exact g
  ·exact absurd ⟨i, fun _ => by grind, hb⟩ f
theorem Cx.topSame (C : Cx S N P id s all) {k : Nat} (hk : k + 1 < all.length) (hu : upK P s all (k + 1) = false) : (tK P all (k + 1)).top = (tK P all k).top := by
 obtain ⟨w1, w2, w3, _⟩ := C.wall hk
 have hd : Yr (tK P all (k + 1)).l < (lnS s).at (Xr (tK P all (k + 1)).l) := by
  have : ¬ (lnS s).at (Xr (tK P all (k + 1)).l) < Yr (tK P all (k + 1)).l := fun h => by rw [w3.2 h] at hu; cases hu
  grind
 have near : ∀ j, (j = k ∨ j = k + 1) → (tK P all j).top ≠ 0 → Nr (Xr (tK P all (k + 1)).l) fun x => (topL S (tK P all j)).spans x ∧ (lnS s).at x < (topL S (tK P all j)).at x := fun j hj h => by
  obtain ⟨g1, g2⟩ := C.topGo hk hj hd h
  exact (Nr.span g1).and (Nr.below g2)
 have cap1 : (tK P all k).top ≠ 0 → (tK P all (k + 1)).top ≠ 0 := fun h => by
  obtain ⟨x, x1, x2, x3, x4, x5⟩ := C.nearR hk (near k (.inl rfl) h)
  exact (C.capT hk x2 x3 ((C.val (by omega)).top h).1 x4 x5).1
 have cap2 : (tK P all (k + 1)).top ≠ 0 → (tK P all k).top ≠ 0 := fun h => by
  obtain ⟨x, x1, x2, x3, x4, x5⟩ := C.nearL hk (near (k + 1) (.inr rfl) h)
  exact (C.capT (by omega) x2 x3 ((C.val hk).top h).1 x4 x5).1
 by_cases h : (tK P all k).top = 0
 ·by_cases h' : (tK P all (k + 1)).top = 0
  ·rw [h, h']
  ·exact absurd h (cap2 h')
 ·have h' := cap1 h
  have m1 := ((C.val (show k < all.length by omega)).top h).1
  have m2 := ((C.val hk).top h').1
  by_cases e : ((tK P all k).top, sgOf S (tK P all k).top) = ((tK P all (k + 1)).top, sgOf S (tK P all (k + 1)).top)
  ·exact (congrArg Prod.fst e).symm
  exfalso
  have sep := C.ti.ok.sep _ m1 _ m2 e
  obtain ⟨x, x1, x2, x3, ⟨x4, x5⟩, x6, x7⟩ := C.nearR hk ((near k (.inl rfl) h).and (near (k + 1) (.inr rfl) h'))
  obtain ⟨y, y1, y2, y3, ⟨y4, y5⟩, y6, y7⟩ := C.nearL hk ((near k (.inl rfl) h).and (near (k + 1) (.inr rfl) h'))
  have c1 := (C.capT hk x2 x3 m1 x4 x5).2
  have c2 := (C.capT (show k < all.length by omega) y2 y3 m2 y6 y7).2
  have ne1 := sep x x4 x6
  have ne2 := sep y y4 y6
  have := sep.symm.keeps x6 x4 y6 y4 (by unfold topL at c1; simp only at ne1 c1 ⊢; grind)
  unfold topL at c2
  simp only at this ne2 c2
  grind
theorem Cx.botSame (C : Cx S N P id s all) {k : Nat} (hk : k + 1 < all.length) (hu : dnK P s all (k + 1) = false) : (tK P all (k + 1)).bot = (tK P all k).bot := by
 obtain ⟨w1, w2, _, w3⟩ := C.wall hk
 have hd : (lnS s).at (Xr (tK P all (k + 1)).l) < Yr (tK P all (k + 1)).l := by
  have : ¬ Yr (tK P all (k + 1)).l < (lnS s).at (Xr (tK P all (k + 1)).l) := fun h => by rw [w3.2 h] at hu; cases hu
  grind
 have near : ∀ j, (j = k ∨ j = k + 1) → (tK P all j).bot ≠ 0 → Nr (Xr (tK P all (k + 1)).l) fun x => (botL S (tK P all j)).spans x ∧ (botL S (tK P all j)).at x < (lnS s).at x := fun j hj h => by
  obtain ⟨g1, g2⟩ := C.botGo hk hj hd h
  exact (Nr.span g1).and (Nr.below g2)
 have cap1 : (tK P all k).bot ≠ 0 → (tK P all (k + 1)).bot ≠ 0 := fun h => by
  obtain ⟨x, x1, x2, x3, x4, x5⟩ := C.nearR hk (near k (.inl rfl) h)
  exact (C.capB hk x2 x3 ((C.val (by omega)).bot h).1 x4 x5).1
 have cap2 : (tK P all (k + 1)).bot ≠ 0 → (tK P all k).bot ≠ 0 := fun h => by
  obtain ⟨x, x1, x2, x3, x4, x5⟩ := C.nearL hk (near (k + 1) (.inr rfl) h)
  exact (C.capB (by omega) x2 x3 ((C.val hk).bot h).1 x4 x5).1
 by_cases h : (tK P all k).bot = 0
 ·by_cases h' : (tK P all (k + 1)).bot = 0
  ·rw [h, h']
  ·exact absurd h (cap2 h')
 ·have h' := cap1 h
  have m1 := ((C.val (show k < all.length by omega)).bot h).1
  have m2 := ((C.val hk).bot h').1
  by_cases e : ((tK P all k).bot, sgOf S (tK P all k).bot) = ((tK P all (k + 1)).bot, sgOf S (tK P all (k + 1)).bot)
  ·exact (congrArg Prod.fst e).symm
  exfalso
  have sep := C.ti.ok.sep _ m1 _ m2 e
  obtain ⟨x, x1, x2, x3, ⟨x4, x5⟩, x6, x7⟩ := C.nearR hk ((near k (.inl rfl) h).and (near (k + 1) (.inr rfl) h'))
  obtain ⟨y, y1, y2, y3, ⟨y4, y5⟩, y6, y7⟩ := C.nearL hk ((near k (.inl rfl) h).and (near (k + 1) (.inr rfl) h'))
  have c1 := (C.capB hk x2 x3 m1 x4 x5).2
  have c2 := (C.capB (show k < all.length by omega) y2 y3 m2 y6 y7).2
  have ne1 := sep x x4 x6
  have ne2 := sep y y4 y6
  have := sep.keeps x4 x6 y4 y6 (by unfold botL at c1; simp only at ne1 c1 ⊢; grind)
  unfold botL at c2
  simp only at this ne2 c2
  grind
theorem runSame {f : Nat → Int} {g : Nat → Bool} {a : Nat} : ∀ {b}, a ≤ b → (∀ i, a < i → i ≤ b → g i = false) → (∀ k, a ≤ k → k + 1 ≤ b → g (k + 1) = false → f (k + 1) = f k) → f b = f a := by
 intro b
 induction b with
 | zero => intro h _ _; rw [show a = 0 by omega]
 | succ b ih =>
  intro h h1 h2
  by_cases e : a = b + 1
  ·rw [e]
  ·rw [h2 b (by omega) (by omega) (h1 (b + 1) (by omega) (by omega))]
   exact ih (by omega) (fun i p q => h1 i p (by omega)) (fun k p q => h2 k p (by omega))
theorem Cx.topRun (C : Cx S N P id s all) {a b : Nat} (h : RunK (upK P s all) all.length a b) {k : Nat} (h1 : a ≤ k) (h2 : k ≤ b) : (tK P all k).top = (tK P all a).top :=
 runSame (f := fun k => (tK P all k).top) (g := upK P s all) h1 (fun i p q => h.2.2.2.1 i p (by omega)) fun i p q e => C.topSame (by have := h.2.1; omega) e
theorem Cx.botRun (C : Cx S N P id s all) {a b : Nat} (h : RunK (dnK P s all) all.length a b) {k : Nat} (h1 : a ≤ k) (h2 : k ≤ b) : (tK P all k).bot = (tK P all a).bot :=
 runSame (f := fun k => (tK P all k).bot) (g := dnK P s all) h1 (fun i p q => h.2.2.2.1 i p (by omega)) fun i p q e => C.botSame (by have := h.2.1; omega) e
theorem Cx.inRun (C : Cx S N P id s all) {a : Nat} {x : Rat} : ∀ {b : Nat}, a ≤ b → b < all.length → lowR s (tK P all a) < x → x < higR s (tK P all b) → ∃ k, a ≤ k ∧ k ≤ b ∧ ((lnS s).spans x ∧ InX (tK P all k) x ∨ a < k ∧ x = Xr (tK P all k).l) := by
 intro b
 induction b with
 | zero =>
  intro h hb h1 h2
  obtain rfl : a = 0 := by omega
  exact ⟨0, by omega, by omega, .inl (in_iff.1 ⟨h1, h2⟩)⟩
 | succ b ih =>
  intro h hb h1 h2
  by_cases e : a = b + 1
  ·subst e
   exact ⟨b + 1, by omega, by omega, .inl (in_iff.1 ⟨h1, h2⟩)⟩
  obtain ⟨l1, l2, l3, l4, l5, l6, l7⟩ := C.link hb
  by_cases g : x < higR s (tK P all b)
  ·obtain ⟨k, k1, k2, k3⟩ := ih (by omega) (by omega) h1 g
   exact ⟨k, k1, by omega, k3⟩
  ·by_cases g2 : x = Xr (tK P all (b + 1)).l
   ·exact ⟨b + 1, by omega, by omega, .inr ⟨by omega, g2⟩⟩
   ·rw [l7] at g
    exact ⟨b + 1, by omega, by omega, .inl (in_iff.1 ⟨by rw [l6]; grind, h2⟩)⟩
theorem Cx.runX (C : Cx S N P id s all) {a b : Nat} (h : a ≤ b) (hb : b < all.length) : Xr s.a ≤ Xr (lftK P s all a) ∧ Xr (lftK P s all a) < Xr (rgtK P s all b) ∧ Xr (rgtK P s all b) ≤ Xr s.b := by
 rw [C.lftX (by omega), C.rgtX hb]
 obtain ⟨x0, p0, q0⟩ := C.pass (show a < all.length by omega)
 obtain ⟨x1, p1, q1⟩ := C.pass hb
 have i0 := in_iff.2 ⟨p0, q0.ix⟩
 have i1 := in_iff.2 ⟨p1, q1.ix⟩
 have j0 := low_iff (s := s) (t := tK P all a) (x := lowR s (tK P all a))
 have j1 := hig_iff (s := s) (t := tK P all b) (x := higR s (tK P all b))
 refine ⟨?_, ?_, ?_⟩
 ·unfold lowR; split
  ·rename_i g; exact Rat.le_of_lt g.2
  ·exact Rat.le_refl
 ·by_cases e : a = b
  ·subst e; grind
  ·have := C.chain.2.2.2.1 a b (by omega) hb
   grind
 ·unfold higR; split
  ·rename_i g; exact Rat.le_of_lt g.2
  ·exact Rat.le_refl
theorem Cx.lftEnd (C : Cx S N P id s all) {k : Nat} (hk : k < all.length) : (tK P all k).hl = true → Xr (tK P all k).l ≤ Xr (lftK P s all k) := by
 intro h
 unfold lftK
 by_cases e : k = 0
 ·subst e; rw [if_pos rfl]; exact C.first h
 ·rw [if_neg e]; exact Rat.le_refl
theorem Cx.rgtEnd (C : Cx S N P id s all) {k : Nat} (hk : k < all.length) : (tK P all k).hr = true → Xr (rgtK P s all k) ≤ Xr (tK P all k).r := by
 intro h
 unfold rgtK
 by_cases e : k + 1 = all.length
 ·rw [if_pos e]
  have := C.last
  rw [show all.length - 1 = k by omega] at this
  exact this h
 ·rw [if_neg e]; exact Rat.le_refl
theorem Cx.valU (C : Cx S N P id s all) {a b : Nat} (h : RunK (upK P s all) all.length a b) : Val ((id, s) :: S) (tzK P id s all (.U a b)) := by
 obtain ⟨r1, r2, r3, r4, r5⟩ := h
 have ha : a < all.length := by omega
 have V := C.val ha
 have Vb := C.val r2
 obtain ⟨n1, n2⟩ := V.notId C.ok
 obtain ⟨sa, sb, hab, ya, yb⟩ := C.new
 have id0 : id ≠ 0 := C.ok.ids (id, s) (by simp)
 obtain ⟨x1, x2, x3⟩ := C.runX r1 r2
 have top := fun k h1 h2 => C.topRun (k := k) ⟨r1, r2, r3, r4, r5⟩ h1 h2
 have tb := top b r1 (Nat.le_refl _)
 have eb : botL ((id, s) :: S) (tzK P id s all (.U a b)) = lnS s := by
  show lnS (sgOf ((id, s) :: S) id) = _
  rw [sgOf_head]
 have et : topL ((id, s) :: S) (tzK P id s all (.U a b)) = topL S (tK P all a) := topL_cons n2
 have etk : ∀ k, a ≤ k → k ≤ b → topL S (tK P all k) = topL S (tK P all a) := fun k h1 h2 => by unfold topL; rw [top k h1 h2]
 obtain ⟨xa, pa, qa⟩ := C.pass ha
 have tsp : (tK P all a).top ≠ 0 → (tK P all a).hl = true ∧ (tK P all b).hr = true ∧ Xr (sgOf S (tK P all a).top).a ≤ Xr (lftK P s all a) ∧ Xr (rgtK P s all b) ≤ Xr (sgOf S (tK P all a).top).b := fun ht => by
  obtain ⟨t1, t2, t3, t4, t5⟩ := V.top ht
  obtain ⟨u1, u2, u3, u4, u5⟩ := Vb.top (by rw [tb]; exact ht)
  rw [tb] at u5
  have := C.lftEnd ha t2
  have := C.rgtEnd r2 u3
  have := Xr_le.2 t4
  have := Xr_le.2 u5
  exact ⟨t2, u3, by grind, by grind⟩
 have nearA : (tK P all a).top ≠ 0 → ∀ x, Xr (lftK P s all a) ≤ x → x ≤ Xr (rgtK P s all b) → (topL S (tK P all a)).near x := fun ht x g1 g2 => by
  obtain ⟨_, _, e1, e2⟩ := tsp ht
  exact ⟨show Xr _ ≤ x by grind, show x ≤ Xr _ by grind⟩
 have nearS : ∀ x, Xr (lftK P s all a) ≤ x → x ≤ Xr (rgtK P s all b) → (lnS s).near x := fun x g1 g2 => ⟨show Xr s.a ≤ x by grind, show x ≤ Xr s.b by grind⟩
 have le : (tK P all a).top ≠ 0 → ∀ x, Xr (lftK P s all a) ≤ x → x ≤ Xr (rgtK P s all b) → (lnS s).at x ≤ (topL S (tK P all a)).at x := fun ht x g1 g2 =>
  sep_le (C.sepT ha ht) pa (V.topSp ht qa.ix) (nearS x g1 g2) (nearA ht x g1 g2) (qa.hi ht)
 refine ⟨fun _ => ?_, fun ht => ?_, fun _ _ => Xr_lt.1 x2, fun _ ht x hx => ?_, fun _ => ⟨?_, fun _ => ?_, fun ht => ?_⟩, fun _ => ⟨?_, fun _ => ?_, fun ht => ?_⟩, fun q hq x hx hI => ?_, fun h => (by cases h), fun h => (by cases h)⟩
 ·show (id, sgOf ((id, s) :: S) id) ∈ _ ∧ true = true ∧ true = true ∧ Xi (sgOf ((id, s) :: S) id).a ≤ _ ∧ _ ≤ Xi (sgOf ((id, s) :: S) id).b
  rw [sgOf_head]
  exact ⟨by simp, rfl, rfl, Xr_le.1 x1, Xr_le.1 x3⟩
 ·obtain ⟨e0, e3, e1, e2⟩ := tsp ht
  have e : sgOf ((id, s) :: S) (tzK P id s all (.U a b)).top = sgOf S (tK P all a).top := sgOf_cons n2
  rw [e]
  exact ⟨List.mem_cons_of_mem _ (V.top ht).1, rfl, rfl, Xr_le.1 e1, Xr_le.1 e2⟩
 ·rw [eb, et]
  have y1 : Xr (lftK P s all a) < x := hx.1 rfl
  have y2 : x < Xr (rgtK P s all b) := hx.2 rfl
  obtain ⟨_, _, e1, e2⟩ := tsp ht
  refine (C.sepT ha ht).keeps pa (V.topSp ht qa.ix) ⟨show Xr s.a < x by grind, show x < Xr s.b by grind⟩ ⟨show Xr (sgOf S (tK P all a).top).a < x by grind, show x < Xr (sgOf S (tK P all a).top).b by grind⟩ (qa.hi ht)
 ·show EndS _ (lftK P s all a)
  unfold lftK
  split
  ·exact endS_a
  ·obtain ⟨j, rfl⟩ : ∃ j, a = j + 1 := ⟨a - 1, by omega⟩
   exact (V.wl (C.link ha).2.1).1.cons
 ·rw [eb]
  show (lnS s).at (Xr (lftK P s all a)) ≤ Yr (lftK P s all a)
  unfold lftK
  by_cases e : a = 0
  ·rw [if_pos e, ya]; exact Rat.le_refl
  ·rw [if_neg e]
   obtain ⟨j, rfl⟩ : ∃ j, a = j + 1 := ⟨a - 1, by omega⟩
   rcases r3 with r3 | r3
   ·omega
   ·exact Rat.le_of_lt ((C.wall ha).2.2.1.1 r3)
 ·rw [et]
  have := le ht (Xr (lftK P s all a)) Rat.le_refl (Rat.le_of_lt x2)
  show Yr (lftK P s all a) ≤ (topL S (tK P all a)).at (Xr (lftK P s all a))
  by_cases e : a = 0
  ·have e2 : lftK P s all a = s.a := by unfold lftK; rw [if_pos e]
   rw [e2, ya] at this
   rw [e2]; exact this
  ·have e2 : lftK P s all a = (tK P all a).l := by unfold lftK; rw [if_neg e]
   rw [e2]
   obtain ⟨j, rfl⟩ : ∃ j, a = j + 1 := ⟨a - 1, by omega⟩
   exact (V.wl (C.link ha).2.1).2.2 ht
 ·show EndS _ (rgtK P s all b)
  unfold rgtK
  split
  ·exact endS_b
  ·exact (Vb.wr (C.link (show b + 1 < all.length by omega)).1).1.cons
 ·rw [eb]
  show (lnS s).at (Xr (rgtK P s all b)) ≤ Yr (rgtK P s all b)
  unfold rgtK
  by_cases e : b + 1 = all.length
  ·rw [if_pos e, yb]; exact Rat.le_refl
  ·rw [if_neg e]
   have hb1 : b + 1 < all.length := by omega
   have l3 := (C.link hb1).2.2.1
   rcases r5 with r5 | r5
   ·exact absurd r5 e
   ·have := Rat.le_of_lt ((C.wall hb1).2.2.1.1 r5)
    rw [← l3] at this
    exact this
 ·rw [et]
  have := le ht (Xr (rgtK P s all b)) (Rat.le_of_lt x2) Rat.le_refl
  show Yr (rgtK P s all b) ≤ (topL S (tK P all a)).at (Xr (rgtK P s all b))
  by_cases e : b + 1 = all.length
  ·have e2 : rgtK P s all b = s.b := by unfold rgtK; rw [if_pos e]
   rw [e2, yb] at this
   rw [e2]; exact this
  ·have e2 : rgtK P s all b = (tK P all b).r := by unfold rgtK; rw [if_neg e]
   rw [e2, ← etk b r1 (Nat.le_refl _)]
   exact (Vb.wr (C.link (show b + 1 < all.length by omega)).1).2.2 (by rw [tb]; exact ht)
 ·have y1 : Xr (lftK P s all a) < x := hI.ix.1 rfl
  have y2 : x < Xr (rgtK P s all b) := hI.ix.2 rfl
  have lo : (lnS s).at x < (lnS q.2).at x := by have := hI.lo id0; rw [eb] at this; exact this
  have hi : (tK P all a).top ≠ 0 → (lnS q.2).at x < (topL S (tK P all a)).at x := fun ht => by have := hI.hi ht; rw [et] at this; exact this
  rcases List.mem_cons.1 hq with rfl | hq
  ·grind
  have no : ∀ k, a ≤ k → k ≤ b → ∀ z, (lnS s).spans z → InX (tK P all k) z → (lnS q.2).spans z → (lnS s).at z < (lnS q.2).at z → ((tK P all a).top ≠ 0 → (lnS q.2).at z < (topL S (tK P all a)).at z) → False := fun k k1 k2 z z1 z2 z3 z4 z5 => by
   obtain ⟨c1, c2⟩ := C.capT (show k < all.length by omega) z1 z2 hq z3 z4
   rw [top k k1 k2] at c1
   rw [etk k k1 k2] at c2
   have := z5 c1
   grind
  rw [C.lftX ha] at y1
  rw [C.rgtX r2] at y2
  obtain ⟨k, k1, k2, k3⟩ := C.inRun r1 r2 y1 y2
  rcases k3 with ⟨k3, k4⟩ | ⟨k3, rfl⟩
  ·exact no k k1 k2 x k3 k4 hx lo hi
  ·obtain ⟨j, rfl⟩ : ∃ j, k = j + 1 := ⟨k - 1, by omega⟩
   have n1 : Nr (Xr (tK P all (j + 1)).l) fun z => (lnS q.2).spans z ∧ (lnS s).at z < (lnS q.2).at z ∧ ((tK P all a).top ≠ 0 → (lnS q.2).at z < (topL S (tK P all a)).at z) :=
    (Nr.span hx).and ((Nr.below lo).and (Nr.imp fun ht => Nr.below (hi ht)))
   obtain ⟨z, _, z1, z2, z3, z4, z5⟩ := C.nearR (show j + 1 < all.length by omega) n1
   exact no (j + 1) k1 k2 z z1 z2 z3 z4 z5
theorem Cx.valD (C : Cx S N P id s all) {a b : Nat} (h : RunK (dnK P s all) all.length a b) : Val ((id, s) :: S) (tzK P id s all (.D a b)) := by
 obtain ⟨r1, r2, r3, r4, r5⟩ := h
 have ha : a < all.length := by omega
 have V := C.val ha
 have Vb := C.val r2
 obtain ⟨n1, n2⟩ := V.notId C.ok
 obtain ⟨sa, sb, hab, ya, yb⟩ := C.new
 have id0 : id ≠ 0 := C.ok.ids (id, s) (by simp)
 obtain ⟨x1, x2, x3⟩ := C.runX r1 r2
 have top := fun k h1 h2 => C.botRun (k := k) ⟨r1, r2, r3, r4, r5⟩ h1 h2
 have tb := top b r1 (Nat.le_refl _)
 have eb : topL ((id, s) :: S) (tzK P id s all (.D a b)) = lnS s := by
  show lnS (sgOf ((id, s) :: S) id) = _
  rw [sgOf_head]
 have et : botL ((id, s) :: S) (tzK P id s all (.D a b)) = botL S (tK P all a) := botL_cons n1
 have etk : ∀ k, a ≤ k → k ≤ b → botL S (tK P all k) = botL S (tK P all a) := fun k h1 h2 => by unfold botL; rw [top k h1 h2]
 obtain ⟨xa, pa, qa⟩ := C.pass ha
 have tsp : (tK P all a).bot ≠ 0 → (tK P all a).hl = true ∧ (tK P all b).hr = true ∧ Xr (sgOf S (tK P all a).bot).a ≤ Xr (lftK P s all a) ∧ Xr (rgtK P s all b) ≤ Xr (sgOf S (tK P all a).bot).b := fun ht => by
  obtain ⟨t1, t2, t3, t4, t5⟩ := V.bot ht
  obtain ⟨u1, u2, u3, u4, u5⟩ := Vb.bot (by rw [tb]; exact ht)
  rw [tb] at u5
  have := C.lftEnd ha t2
  have := C.rgtEnd r2 u3
  have := Xr_le.2 t4
  have := Xr_le.2 u5
  exact ⟨t2, u3, by grind, by grind⟩
 have nearA : (tK P all a).bot ≠ 0 → ∀ x, Xr (lftK P s all a) ≤ x → x ≤ Xr (rgtK P s all b) → (botL S (tK P all a)).near x := fun ht x g1 g2 => by
  obtain ⟨_, _, e1, e2⟩ := tsp ht
  exact ⟨show Xr _ ≤ x by grind, show x ≤ Xr _ by grind⟩
 have nearS : ∀ x, Xr (lftK P s all a) ≤ x → x ≤ Xr (rgtK P s all b) → (lnS s).near x := fun x g1 g2 => ⟨show Xr s.a ≤ x by grind, show x ≤ Xr s.b by grind⟩
 have le : (tK P all a).bot ≠ 0 → ∀ x, Xr (lftK P s all a) ≤ x → x ≤ Xr (rgtK P s all b) → (botL S (tK P all a)).at x ≤ (lnS s).at x := fun ht x g1 g2 =>
  sep_le (C.sepB ha ht) (V.botSp ht qa.ix) pa (nearA ht x g1 g2) (nearS x g1 g2) (qa.lo ht)
 refine ⟨fun ht => ?_, fun _ => ?_, fun _ _ => Xr_lt.1 x2, fun ht _ x hx => ?_, fun _ => ⟨?_, fun ht => ?_, fun _ => ?_⟩, fun _ => ⟨?_, fun ht => ?_, fun _ => ?_⟩, fun q hq x hx hI => ?_, fun h => (by cases h), fun h => (by cases h)⟩
 ·obtain ⟨e0, e3, e1, e2⟩ := tsp ht
  have e : sgOf ((id, s) :: S) (tzK P id s all (.D a b)).bot = sgOf S (tK P all a).bot := sgOf_cons n1
  rw [e]
  exact ⟨List.mem_cons_of_mem _ (V.bot ht).1, rfl, rfl, Xr_le.1 e1, Xr_le.1 e2⟩
 ·show (id, sgOf ((id, s) :: S) id) ∈ _ ∧ true = true ∧ true = true ∧ Xi (sgOf ((id, s) :: S) id).a ≤ _ ∧ _ ≤ Xi (sgOf ((id, s) :: S) id).b
  rw [sgOf_head]
  exact ⟨by simp, rfl, rfl, Xr_le.1 x1, Xr_le.1 x3⟩
 ·rw [eb, et]
  have y1 : Xr (lftK P s all a) < x := hx.1 rfl
  have y2 : x < Xr (rgtK P s all b) := hx.2 rfl
  obtain ⟨_, _, e1, e2⟩ := tsp ht
  refine (C.sepB ha ht).keeps (V.botSp ht qa.ix) pa ⟨show Xr (sgOf S (tK P all a).bot).a < x by grind, show x < Xr (sgOf S (tK P all a).bot).b by grind⟩ ⟨show Xr s.a < x by grind, show x < Xr s.b by grind⟩ (qa.lo ht)
 ·show EndS _ (lftK P s all a)
  unfold lftK
  split
  ·exact endS_a
  ·obtain ⟨j, rfl⟩ : ∃ j, a = j + 1 := ⟨a - 1, by omega⟩
   exact (V.wl (C.link ha).2.1).1.cons
 ·rw [et]
  have := le ht (Xr (lftK P s all a)) Rat.le_refl (Rat.le_of_lt x2)
  show (botL S (tK P all a)).at (Xr (lftK P s all a)) ≤ Yr (lftK P s all a)
  by_cases e : a = 0
  ·have e2 : lftK P s all a = s.a := by unfold lftK; rw [if_pos e]
   rw [e2, ya] at this
   rw [e2]; exact this
  ·have e2 : lftK P s all a = (tK P all a).l := by unfold lftK; rw [if_neg e]
   rw [e2]
   obtain ⟨j, rfl⟩ : ∃ j, a = j + 1 := ⟨a - 1, by omega⟩
   exact (V.wl (C.link ha).2.1).2.1 ht
 ·rw [eb]
  show Yr (lftK P s all a) ≤ (lnS s).at (Xr (lftK P s all a))
  unfold lftK
  by_cases e : a = 0
  ·rw [if_pos e, ya]; exact Rat.le_refl
  ·rw [if_neg e]
   obtain ⟨j, rfl⟩ : ∃ j, a = j + 1 := ⟨a - 1, by omega⟩
   rcases r3 with r3 | r3
   ·omega
   ·exact Rat.le_of_lt ((C.wall ha).2.2.2.1 r3)
 ·show EndS _ (rgtK P s all b)
  unfold rgtK
  split
  ·exact endS_b
  ·exact (Vb.wr (C.link (show b + 1 < all.length by omega)).1).1.cons
 ·rw [et]
  have := le ht (Xr (rgtK P s all b)) (Rat.le_of_lt x2) Rat.le_refl
  show (botL S (tK P all a)).at (Xr (rgtK P s all b)) ≤ Yr (rgtK P s all b)
  by_cases e : b + 1 = all.length
  ·have e2 : rgtK P s all b = s.b := by unfold rgtK; rw [if_pos e]
   rw [e2, yb] at this
   rw [e2]; exact this
  ·have e2 : rgtK P s all b = (tK P all b).r := by unfold rgtK; rw [if_neg e]
   rw [e2, ← etk b r1 (Nat.le_refl _)]
   exact (Vb.wr (C.link (show b + 1 < all.length by omega)).1).2.1 (by rw [tb]; exact ht)
 ·rw [eb]
  show Yr (rgtK P s all b) ≤ (lnS s).at (Xr (rgtK P s all b))
  unfold rgtK
  by_cases e : b + 1 = all.length
  ·rw [if_pos e, yb]; exact Rat.le_refl
  ·rw [if_neg e]
   have hb1 : b + 1 < all.length := by omega
   have l3 := (C.link hb1).2.2.1
   rcases r5 with r5 | r5
   ·exact absurd r5 e
   ·have := Rat.le_of_lt ((C.wall hb1).2.2.2.1 r5)
    rw [← l3] at this
    exact this
 ·have y1 : Xr (lftK P s all a) < x := hI.ix.1 rfl
  have y2 : x < Xr (rgtK P s all b) := hI.ix.2 rfl
  have lo : (lnS q.2).at x < (lnS s).at x := by have := hI.hi id0; rw [eb] at this; exact this
  have hi : (tK P all a).bot ≠ 0 → (botL S (tK P all a)).at x < (lnS q.2).at x := fun ht => by have := hI.lo ht; rw [et] at this; exact this
  rcases List.mem_cons.1 hq with rfl | hq
  ·grind
  have no : ∀ k, a ≤ k → k ≤ b → ∀ z, (lnS s).spans z → InX (tK P all k) z → (lnS q.2).spans z → (lnS q.2).at z < (lnS s).at z → ((tK P all a).bot ≠ 0 → (botL S (tK P all a)).at z < (lnS q.2).at z) → False := fun k k1 k2 z z1 z2 z3 z4 z5 => by
   obtain ⟨c1, c2⟩ := C.capB (show k < all.length by omega) z1 z2 hq z3 z4
   rw [top k k1 k2] at c1
   rw [etk k k1 k2] at c2
   have := z5 c1
   grind
  rw [C.lftX ha] at y1
  rw [C.rgtX r2] at y2
  obtain ⟨k, k1, k2, k3⟩ := C.inRun r1 r2 y1 y2
  rcases k3 with ⟨k3, k4⟩ | ⟨k3, rfl⟩
  ·exact no k k1 k2 x k3 k4 hx lo hi
  ·obtain ⟨j, rfl⟩ : ∃ j, k = j + 1 := ⟨k - 1, by omega⟩
   have n1 : Nr (Xr (tK P all (j + 1)).l) fun z => (lnS q.2).spans z ∧ (lnS q.2).at z < (lnS s).at z ∧ ((tK P all a).bot ≠ 0 → (botL S (tK P all a)).at z < (lnS q.2).at z) :=
    (Nr.span hx).and ((Nr.below lo).and (Nr.imp fun ht => Nr.below (hi ht)))
   obtain ⟨z, _, z1, z2, z3, z4, z5⟩ := C.nearR (show j + 1 < all.length by omega) n1
   exact no (j + 1) k1 k2 z z1 z2 z3 z4 z5
variable {S S' : List (Int × Sg)} {N N' : List Nd} {P : List Pc} {id : Int} {s : Sg} {all : List Nat} {t : Tz} {x y : Rat}
theorem Desc.onM (hN : ∀ (n : Nat) (q : Nd), N[n]? = some q → q.k ≠ 0 → N'[n]? = some q) (hS : ∀ q ∈ S, q ∈ S') {k n : Nat} {r : Ans} (h : Desc N S x y k n r) : ∀ i, r = .on i → Desc N' S' x y k n (.on i) := by
 induction h with
 | leaf => intro i e; cases e
 | ptL h hk hp hx hm _ ih => exact fun i e => .ptL (hN _ _ h (by rw [hk]; decide)) hk hp hx hm (ih i e)
 | ptR h hk hp hx hm _ ih => exact fun i e => .ptR (hN _ _ h (by rw [hk]; decide)) hk hp hx hm (ih i e)
 | lnU h hk hs hy hm _ ih => exact fun i e => .lnU (hN _ _ h (by rw [hk]; decide)) hk (hS _ hs) hy hm (ih i e)
 | lnD h hk hs hy hm _ ih => exact fun i e => .lnD (hN _ _ h (by rw [hk]; decide)) hk (hS _ hs) hy hm (ih i e)
 | on h hk hs hy =>
  intro i e
  injection e with e
  subst e
  exact .on (hN _ _ h (by rw [hk]; decide)) hk (hS _ hs) hy
theorem Desc.leafM (hN : ∀ (n : Nat) (q : Nd), N[n]? = some q → q.k ≠ 0 → N'[n]? = some q) (hS : ∀ q ∈ S, q ∈ S') {k n : Nat} {r : Ans} (h : Desc N S x y k n r) : ∀ m, r = .leaf m → ∀ j r', Desc N' S' x y j m r' → ∃ k', Desc N' S' x y k' n r' := by
 induction h with
 | leaf => intro m e j r' g; injection e with e; subst e; exact ⟨j, g⟩
 | ptL h hk hp hx hm _ ih =>
  intro m e j r' g
  obtain ⟨k', h'⟩ := ih m e j r' g
  exact ⟨_, .ptL (hN _ _ h (by rw [hk]; decide)) hk hp hx hm h'⟩
 | ptR h hk hp hx hm _ ih =>
  intro m e j r' g
  obtain ⟨k', h'⟩ := ih m e j r' g
  exact ⟨_, .ptR (hN _ _ h (by rw [hk]; decide)) hk hp hx hm h'⟩
 | lnU h hk hs hy hm _ ih =>
  intro m e j r' g
  obtain ⟨k', h'⟩ := ih m e j r' g
  exact ⟨_, .lnU (hN _ _ h (by rw [hk]; decide)) hk (hS _ hs) hy hm h'⟩
 | lnD h hk hs hy hm _ ih =>
  intro m e j r' g
  obtain ⟨k', h'⟩ := ih m e j r' g
  exact ⟨_, .lnD (hN _ _ h (by rw [hk]; decide)) hk (hS _ hs) hy hm h'⟩
 | on => intro m e; cases e
section
variable {X : PSt}
def Goes (id : Int) (s : Sg) (S : List (Int × Sg)) (X : PSt) (x y : Rat) (n : Nat) : Prop :=
 ∃ j r, Desc X.N ((id, s) :: S) x y j n r ∧ ((r = .on id ∧ (lnS s).spans x ∧ y = (lnS s).at x) ∨ ∃ (i : Nat) (p : Pc), X.P[i]? = some p ∧ p.g = false ∧ InT ((id, s) :: S) p.t x y ∧ r = .leaf p.n.toNat)
theorem goes_leaf {i n : Nat} {K : Kd} (hA : AtN N P id s all X i n K) (hI : InT ((id, s) :: S) (tzK P id s all K) x y) : Goes id s S X x y n :=
 ⟨0, .leaf n, .leaf hA.2.2 rfl, .inr ⟨i, _, hA.2.1, rfl, hI, rfl⟩⟩
theorem goes_pt {c m : Nat} {q : Nd} (h : X.N[c]? = some q) (hk : q.k = 1) (hp : InP q.p) (hc : x < Xr q.p ∧ q.a = (m : Int) ∨ Xr q.p < x ∧ q.b = (m : Int)) (g : Goes id s S X x y m) : Goes id s S X x y c := by
 obtain ⟨j, r, g1, g2⟩ := g
 rcases hc with ⟨h1, h2⟩ | ⟨h1, h2⟩
 ·exact ⟨_, r, .ptL h hk hp h1 h2 g1, g2⟩
 ·exact ⟨_, r, .ptR h hk hp h1 h2 g1, g2⟩
theorem Cx.inU (C : Cx S N P id s all) {a b k : Nat} (h : RunK (upK P s all) all.length a b) (h1 : a ≤ k) (h2 : k ≤ b) (hI : InT S (tK P all k) x y) (sp : (lnS s).spans x) (hy : (lnS s).at x < y) : InT ((id, s) :: S) (tzK P id s all (.U a b)) x y := by
 have hb := h.2.1
 obtain ⟨n1, n2⟩ := (C.val (show a < all.length by omega)).notId C.ok
 have i0 := in_iff.2 ⟨sp, hI.ix⟩
 refine ⟨⟨fun _ => ?_, fun _ => ?_⟩, fun _ => ?_, fun ht => ?_⟩
 ·show Xr (lftK P s all a) < x
  have : Xr (lftK P s all a) ≤ Xr (lftK P s all k) := by
   by_cases e : a = k
   ·rw [e]; exact Rat.le_refl
   ·exact Rat.le_of_lt (C.mono (show a < k by omega) (by omega)).1
  rw [C.lftX (show k < all.length by omega)] at this
  grind
 ·show x < Xr (rgtK P s all b)
  have : Xr (rgtK P s all k) ≤ Xr (rgtK P s all b) := by
   by_cases e : k = b
   ·rw [e]; exact Rat.le_refl
   ·have h3 := (C.mono (show k < b by omega) hb).2
    have h4 := (C.runX (Nat.le_refl b) hb).2.1
    grind
  rw [C.rgtX (show k < all.length by omega)] at this
  grind
 ·show (lnS (sgOf ((id, s) :: S) id)).at x < y
  rw [sgOf_head]; exact hy
 ·have e : topL ((id, s) :: S) (tzK P id s all (.U a b)) = topL S (tK P all a) := topL_cons n2
  rw [e]
  have et := C.topRun h h1 h2
  have := hI.hi (by rw [et]; exact ht)
  unfold topL at this ⊢
  rw [et] at this
  exact this
theorem Cx.inD (C : Cx S N P id s all) {a b k : Nat} (h : RunK (dnK P s all) all.length a b) (h1 : a ≤ k) (h2 : k ≤ b) (hI : InT S (tK P all k) x y) (sp : (lnS s).spans x) (hy : y < (lnS s).at x) : InT ((id, s) :: S) (tzK P id s all (.D a b)) x y := by
 have hb := h.2.1
 obtain ⟨n1, n2⟩ := (C.val (show a < all.length by omega)).notId C.ok
 have i0 := in_iff.2 ⟨sp, hI.ix⟩
 refine ⟨⟨fun _ => ?_, fun _ => ?_⟩, fun ht => ?_, fun _ => ?_⟩
 ·show Xr (lftK P s all a) < x
  have : Xr (lftK P s all a) ≤ Xr (lftK P s all k) := by
   by_cases e : a = k
   ·rw [e]; exact Rat.le_refl
   ·exact Rat.le_of_lt (C.mono (show a < k by omega) (by omega)).1
  rw [C.lftX (show k < all.length by omega)] at this
  grind
 ·show x < Xr (rgtK P s all b)
  have : Xr (rgtK P s all k) ≤ Xr (rgtK P s all b) := by
   by_cases e : k = b
   ·rw [e]; exact Rat.le_refl
   ·have h3 := (C.mono (show k < b by omega) hb).2
    have h4 := (C.runX (Nat.le_refl b) hb).2.1
    grind
  rw [C.rgtX (show k < all.length by omega)] at this
  grind
 ·have e : botL ((id, s) :: S) (tzK P id s all (.D a b)) = botL S (tK P all a) := botL_cons n1
  rw [e]
  have et := C.botRun h h1 h2
  have := hI.lo (by rw [et]; exact ht)
  unfold botL at this ⊢
  rw [et] at this
  exact this
 ·show y < (lnS (sgOf ((id, s) :: S) id)).at x
  rw [sgOf_head]; exact hy
theorem Cx.inL (C : Cx S N P id s all) (hI : InT S (tK P all 0) x y) (hx : x < Xr s.a) : InT ((id, s) :: S) (tzK P id s all .L) x y := by
 obtain ⟨n1, n2⟩ := (C.val C.chain.1).notId C.ok
 have : InT S (tzK P id s all .L) x y := ⟨⟨hI.ix.1, fun _ => hx⟩, hI.lo, hI.hi⟩
 exact (inT_cons (t := tzK P id s all .L) n1 n2).2 this
theorem Cx.inR (C : Cx S N P id s all) (hI : InT S (tK P all (all.length - 1)) x y) (hx : Xr s.b < x) : InT ((id, s) :: S) (tzK P id s all .R) x y := by
 obtain ⟨n1, n2⟩ := (C.val (show all.length - 1 < all.length by have := C.chain.1; omega)).notId C.ok
 have : InT S (tzK P id s all .R) x y := ⟨⟨fun _ => hx, hI.ix.2⟩, hI.lo, hI.hi⟩
 exact (inT_cons (t := tzK P id s all .R) n1 n2).2 this
theorem Cx.goes (C : Cx S N P id s all) (H : CI N P id s all all.length X) {k : Nat} (hk : k < all.length) (hI : InT S (tK P all k) x y) (ha : x ≠ Xr s.a) (hb : x ≠ Xr s.b) : Goes id s S X x y (pk P all k).n.toNat := by
 obtain ⟨sa, sb, hab, ya, yb⟩ := C.new
 obtain ⟨u, d, pu, pd, su, eu, sd, ed, h1, h2, h3, h4, h5, h6, h7, h8, h9, h10, _, q1, q2, q3, g1, g2, g3, g4⟩ := H.F k hk
 have V := C.val hk
 have line : Xr s.a < x → x < Xr s.b → ∀ c, X.N[c]? = some q1 → Goes id s S X x y c := by
  intro x1 x2 c hc
  have sp : (lnS s).spans x := ⟨x1, x2⟩
  subst g1
  by_cases e : y = (lnS s).at x
  ·exact ⟨0, .on id, .on (s := s) hc rfl (by simp) e, .inl ⟨rfl, sp, e⟩⟩
  ·by_cases up : (lnS s).at x < y
   ·obtain ⟨j, r, a1, a2⟩ := goes_leaf (S := S) h9 (C.inU h7 h1 h2 hI sp up)
    exact ⟨_, r, .lnU (s := s) hc rfl (by simp) up rfl a1, a2⟩
   ·have dn : y < (lnS s).at x := by grind
    obtain ⟨j, r, a1, a2⟩ := goes_leaf (S := S) h10 (C.inD h8 h3 h4 hI sp dn)
    exact ⟨_, r, .lnD (s := s) hc rfl (by simp) dn rfl a1, a2⟩
 have fin : Xr s.a < x → ∀ c, X.N[c]? = some q2 → Goes id s S X x y c := by
  intro x1 c hc
  cases hce : ceK P s all k
  ·rw [hce] at g2
   have g2' : q2 = q1 := g2
   rw [g2'] at hc
   refine line x1 ?_ c hc
   by_cases e : k + 1 = all.length
   ·unfold ceK at hce
    rw [decide_eq_true e, Bool.true_and, Bool.or_eq_false_iff, Bool.not_eq_false'] at hce
    have h1 := hI.ix.2 hce.1
    have h2 : ¬ Xr s.b < Xr (tK P all k).r := fun q => by
     rw [(less_X sb (C.ti.ok.endIn (V.wr hce.1).1)).2 q] at hce
     cases hce.2
    grind
   ·obtain ⟨l1, _, l3, _, l5, _⟩ := C.link (show k + 1 < all.length by omega)
    have := hI.ix.2 l1
    rw [l3] at this
    grind
  ·rw [hce, if_pos rfl] at g2
   obtain ⟨c', e, i, m1, m2, m3, m4, rfl⟩ := g2
   have hm : k = all.length - 1 := by
    unfold ceK at hce
    simp only [Bool.and_eq_true, decide_eq_true_eq] at hce
    omega
   by_cases x2 : x < Xr s.b
   ·exact goes_pt hc rfl sb (.inl ⟨x2, rfl⟩) (line x1 x2 c' m2)
   ·have x3 : Xr s.b < x := by grind
    refine goes_pt hc rfl sb (.inr ⟨x3, rfl⟩) (goes_leaf m4 (C.inR ?_ x3))
    rw [← hm]; exact hI
 cases hcb : cbK P s all k
 ·rw [hcb] at g3
  have g3' : q3 = q2 := g3
  rw [g3'] at g4
  refine fin ?_ _ g4
  by_cases e : k = 0
  ·subst e
   unfold cbK at hcb
   rw [decide_eq_true rfl, Bool.true_and, Bool.or_eq_false_iff, Bool.not_eq_false'] at hcb
   have h1 := hI.ix.1 hcb.1
   have h2 : ¬ Xr (tK P all 0).l < Xr s.a := fun q => by
    rw [(less_X (C.ti.ok.endIn (V.wl hcb.1).1) sa).2 q] at hcb
    cases hcb.2
   grind
  ·obtain ⟨j, rfl⟩ : ∃ j, k = j + 1 := ⟨k - 1, by omega⟩
   obtain ⟨_, l2, _, l4, _⟩ := C.link hk
   have := hI.ix.1 l2
   grind
 ·rw [hcb, if_pos rfl] at g3
  obtain ⟨c', e, i, m1, m2, m3, m4, rfl⟩ := g3
  have hm : k = 0 := by
   unfold cbK at hcb
   simp only [Bool.and_eq_true, decide_eq_true_eq] at hcb
   exact hcb.1
  by_cases x2 : x < Xr s.a
  ·refine goes_pt g4 rfl sa (.inl ⟨x2, rfl⟩) (goes_leaf m4 (C.inL ?_ x2))
   rw [← hm]; exact hI
  ·have x3 : Xr s.a < x := by grind
   exact goes_pt g4 rfl sa (.inr ⟨x3, rfl⟩) (fin x3 c' m2)
end
theorem TI.put (C : Cx S N P id s all) : TI ((id, s) :: S) (roundsS id s all all.length ⟨N, P, 0, 0⟩).N (roundsS id s all all.length ⟨N, P, 0, 0⟩).P := by
 have hg : ∀ k, k < all.length → (pk P all k).g = false := fun k hk => by obtain ⟨n, _, _, h, _⟩ := C.at hk; exact h
 have H := rounds_CI C.ctx hg all.length (Nat.le_refl _)
 have W := (roundsS_size (id := id) (s := s) C.ti.wf C.nodup (fun n hn => (cross_few C.cr).2.1 n hn) all.length (Nat.le_refl _)).2.2.1
 generalize roundsS id s all all.length ⟨N, P, 0, 0⟩ = X at *
 have hta : all.take all.length = all := List.take_length
 have m0 := C.chain.1
 have old : ∀ (i : Nat) (p : Pc), X.P[i]? = some p → p.g = false → i < P.length → P[i]? = some p ∧ i ∉ all ∧ ¬ Pass S s p.t := by
  intro i p h1 h2 h3
  have hn : i ∉ all := fun hm => by
   obtain ⟨q, g1, g2⟩ := H.gone i (by rw [hta]; exact hm)
   rw [h1] at g1
   injection g1 with g1
   rw [← g1, h2] at g2; cases g2
  have hp : P[i]? = some p := (H.oldP i h3 (by rw [hta]; exact hn)).symm.trans h1
  exact ⟨hp, hn, fun h => hn ((C.mem hp).2 ⟨h2, h⟩)⟩
 have new : ∀ (i : Nat) (p : Pc), X.P[i]? = some p → P.length ≤ i → ∃ K n, OkK P s all all.length K ∧ AtN N P id s all X i n K ∧ p = ⟨tzK P id s all K, (n : Int), false⟩ := by
  intro i p h1 h2
  obtain ⟨K, n, g1, g2⟩ := H.new i h2 (List.getElem?_eq_some_iff.1 h1).1
  have := g2.2.1
  rw [h1] at this
  injection this with this
  exact ⟨K, n, g1, g2, this⟩
 have valK : ∀ K, OkK P s all all.length K → Val ((id, s) :: S) (tzK P id s all K) := by
  intro K hK
  cases K with
  | U a b => exact C.valU hK
  | D a b => exact C.valD hK
  | L => exact C.valL hK.2
  | R => exact C.valR hK.2.2
 have nodeK : ∀ (i : Nat) (p : Pc), P[i]? = some p → p.g = false → i ∉ all → ∀ k, k < all.length → (pk P all k).n.toNat ≠ p.n.toNat := by
  intro i p h1 h2 h3 k hk e
  obtain ⟨n, a1, a2, a3, _⟩ := C.at hk
  have l1 := C.ti.leaf n _ a2 a3
  have l2 := C.ti.leaf i p h1 h2
  rw [e, l2] at l1
  injection l1 with l1
  unfold lfN at l1
  injection l1 with _ l1
  have : i = n := by omega
  rw [this] at h3
  exact h3 (List.mem_of_getElem? a1)
 have oldNode : ∀ (n : Nat) (q : Nd), N[n]? = some q → q.k ≠ 0 → X.N[n]? = some q := by
  intro n q h1 h2
  rw [H.oldN n (List.getElem?_eq_some_iff.1 h1).1 (fun k hk e => ?_)]
  ·exact h1
  ·obtain ⟨m, a1, a2, a3, _⟩ := C.at hk
   have l1 := C.ti.leaf m _ a2 a3
   rw [e, h1] at l1
   injection l1 with l1
   rw [l1] at h2
   exact h2 rfl
 have apart : ∀ (i : Nat) (p : Pc) (K : Kd), P[i]? = some p → p.g = false → i ∉ all → OkK P s all all.length K → p.t ≠ tzK P id s all K := by
  intro i p K h1 h2 h3 hK e
  have V := C.ti.val i p h1 h2
  obtain ⟨n1, n2⟩ := V.notId C.ok
  have same : ∀ k, k < all.length → (∀ x y, InT ((id, s) :: S) (tzK P id s all K) x y → InT S (tK P all k) x y) → False := by
   intro k hk hh
   have VK := valK K hK
   obtain ⟨x, hx, _⟩ := VK.someX []
   obtain ⟨y, hy⟩ := VK.someY hx
   have a1 := hh x y hy
   rw [← e] at hy
   have a2 := (inT_cons n1 n2).1 hy
   obtain ⟨m, b1, b2, b3, _, b5⟩ := C.at hk
   have := C.ti.dist i m _ _ h1 b2 h2 b3 (val_uniq C.ti.ok V b5 a2 a1)
   rw [this] at h3
   exact h3 (List.mem_of_getElem? b1)
  cases K with
  | U a b => exact n1 (by rw [e]; rfl)
  | D a b => exact n2 (by rw [e]; rfl)
  | L =>
   obtain ⟨c1, c2⟩ := (C.val m0).notId C.ok
   refine same 0 m0 fun x y hI => ?_
   have hI := (inT_cons (t := tzK P id s all .L) c1 c2).1 hI
   have har : (tK P all 0).hr = true → Xr s.a < Xr (tK P all 0).r := fun hr => by
    obtain ⟨x0, p0, q0⟩ := C.pass m0
    have := q0.ix.2 hr
    have a0 : Xr s.a < x0 := p0.1
    grind
   have hxa : x < Xr s.a := hI.ix.2 rfl
   exact ⟨⟨hI.ix.1, fun hr => by have := har hr; grind⟩, hI.lo, hI.hi⟩
  | R =>
   have m1 : all.length - 1 < all.length := by omega
   obtain ⟨c1, c2⟩ := (C.val m1).notId C.ok
   refine same _ m1 fun x y hI => ?_
   have hI := (inT_cons (t := tzK P id s all .R) c1 c2).1 hI
   have hlb : (tK P all (all.length - 1)).hl = true → Xr (tK P all (all.length - 1)).l < Xr s.b := fun hr => by
    obtain ⟨x0, p0, q0⟩ := C.pass m1
    have := q0.ix.1 hr
    have a0 : x0 < Xr s.b := p0.2
    grind
   have hxa : Xr s.b < x := hI.ix.1 rfl
   exact ⟨⟨fun hr => by have := hlb hr; grind, hI.ix.2⟩, hI.lo, hI.hi⟩
 refine ⟨C.ok, W, fun i p h1 h2 => ?_, fun i p h1 h2 => ?_, fun i j p q h1 h2 h3 h4 h5 => ?_, fun x y hx => ?_⟩
 ·by_cases hi : i < P.length
  ·obtain ⟨a1, a2, a3⟩ := old i p h1 h2 hi
   exact (C.ti.val i p a1 h2).keep C.ok a3
  ·obtain ⟨K, n, g1, g2, rfl⟩ := new i p h1 (by omega)
   exact valK K g1
 ·by_cases hi : i < P.length
  ·obtain ⟨a1, a2, a3⟩ := old i p h1 h2 hi
   have l := C.ti.leaf i p a1 h2
   rw [H.oldN _ (List.getElem?_eq_some_iff.1 l).1 (nodeK i p a1 h2 a2)]
   exact l
  ·obtain ⟨K, n, g1, g2, rfl⟩ := new i p h1 (by omega)
   exact g2.2.2
 ·by_cases hi : i < P.length <;> by_cases hj : j < P.length
  ·exact C.ti.dist i j p q (old i p h1 h3 hi).1 (old j q h2 h4 hj).1 h3 h4 h5
  ·obtain ⟨a1, a2, _⟩ := old i p h1 h3 hi
   obtain ⟨K, n, g1, g2, rfl⟩ := new j q h2 (by omega)
   exact absurd h5 (apart i p K a1 h3 a2 g1)
  ·obtain ⟨a1, a2, _⟩ := old j q h2 h4 hj
   obtain ⟨K, n, g1, g2, rfl⟩ := new i p h1 (by omega)
   exact absurd h5.symm (apart j q K a1 h4 a2 g1)
  ·obtain ⟨K, n, g1, g2, rfl⟩ := new i p h1 (by omega)
   obtain ⟨K', n', g1', g2', rfl⟩ := new j q h2 (by omega)
   exact H.one i j n n' K K' (by omega) (by omega) g1 g1' g2 g2' (tz_tag C.ctx (Nat.le_refl _) g1 g1' h5)
 ·rcases C.ti.down x y (fun e he => hx e he.cons) with ⟨k, i', sg, g1, g2, g3, g4⟩ | ⟨k, i, p, g1, g2, g3, g4⟩
  ·exact .inl ⟨k, i', sg, by simp [g1], g2, g3, g4.onM oldNode (fun q hq => by simp [hq]) i' rfl⟩
  ·by_cases hm : i ∈ all
   ·obtain ⟨k0, hk0⟩ := List.getElem?_of_mem hm
    have hkl := (List.getElem?_eq_some_iff.1 hk0).1
    have e : pk P all k0 = p := by unfold pk; rw [hk0]; show (P[i]?).getD pc0 = p; rw [g1]; rfl
    have hI : InT S (tK P all k0) x y := by show InT S (pk P all k0).t x y; rw [e]; exact g3
    obtain ⟨j, r, a1, a2⟩ := C.goes H hkl hI (hx _ endS_a) (hx _ endS_b)
    rw [e] at a1
    obtain ⟨k', a3⟩ := g4.leafM oldNode (fun q hq => List.mem_cons_of_mem (id, s) hq) _ rfl j r a1
    rcases a2 with ⟨rfl, a4, a5⟩ | ⟨i', p', b1, b2, b3, rfl⟩
    ·exact .inl ⟨k', id, s, by simp, a4, a5, a3⟩
    ·exact .inr ⟨k', i', p', b1, b2, b3, a3⟩
   ·have hi := (List.getElem?_eq_some_iff.1 g1).1
    have hX : X.P[i]? = some p := (H.oldP i hi (by rw [hta]; exact hm)).trans g1
    obtain ⟨n1, n2⟩ := (C.ti.val i p g1 g2).notId C.ok
    have l := C.ti.leaf i p g1 g2
    have lX : X.N[p.n.toNat]? = some (lfN i) := by
     rw [H.oldN _ (List.getElem?_eq_some_iff.1 l).1 (nodeK i p g1 g2 hm)]
     exact l
    obtain ⟨k', a3⟩ := g4.leafM oldNode (fun q hq => List.mem_cons_of_mem (id, s) hq) _ rfl 0 _ (.leaf lX rfl)
    exact .inr ⟨k', i, p, hX, g2, (inT_cons n1 n2).2 g3, a3⟩
end Go.Proofs.YtlhmjhildlnokaaGreat
namespace Go.Proofs.YtlhmjhildlnokaaGreat
set_option linter.unusedVariables false
set_option linter.unusedSimpArgs false
variable {vs : List Vt} {es : List Eg}
def loP (vs : List Vt) (e : Eg) : Pt := if Xi (rpt vs e.a) < Xi (rpt vs e.b) then rpt vs e.a else rpt vs e.b
def hiP (vs : List Vt) (e : Eg) : Pt := if Xi (rpt vs e.a) < Xi (rpt vs e.b) then rpt vs e.b else rpt vs e.a
def lnE (vs : List Vt) (e : Eg) : Ln := lnOf (loP vs e) (hiP vs e)
theorem ends_two (vs : List Vt) (e : Eg) : (loP vs e = rpt vs e.a ∧ hiP vs e = rpt vs e.b) ∨ (loP vs e = rpt vs e.b ∧ hiP vs e = rpt vs e.a) := by
 unfold loP hiP; split <;> simp
theorem edge_in (H : RightP vs es) {e : Eg} (he : e ∈ es) : InP (loP vs e) ∧ InP (hiP vs e) ∧ Xi (loP vs e) < Xi (hiP vs e) := by
 have hE := H.each e he
 have i1 := inP_b (rpt_in H.verts hE.2.1.2.1)
 have i2 := inP_b (rpt_in H.verts hE.2.1.2.2)
 have hne := rpt_ne H.verts hE.2.1.1 hE.2.1.2.1 hE.2.1.2.2
 unfold loP hiP
 split
 ·rename_i h; exact ⟨i1, i2, h⟩
 ·rename_i h
  refine ⟨i2, i1, ?_⟩
  have : Xi (rpt vs e.a) ≠ Xi (rpt vs e.b) := fun q => hne (Xi_inj i1 i2 q)
  omega
theorem pair_apart (H : RightP vs es) {e f : Eg} (he : e ∈ es) (hf : f ∈ es) (hne : e ≠ f) : meetL (rpt vs e.a) (rpt vs e.b) (rpt vs f.a) (rpt vs f.b) = false := by
 have ne : ∀ g ∈ es, rpt vs g.a ≠ rpt vs g.b := fun g hg => by
  have hE := H.each g hg
  exact rpt_ne H.verts hE.2.1.1 hE.2.1.2.1 hE.2.1.2.2
 have h2 := (pairwise_get es).1 H.two
 obtain ⟨i, hi⟩ := List.getElem?_of_mem he
 obtain ⟨j, hj⟩ := List.getElem?_of_mem hf
 rcases Nat.lt_trichotomy i j with q | q | q
 ·have := (h2 i j e f q hi hj).2.2
  rw [← meet_eq _ _ _ _ (ne f hf) (ne e he)] at this
  rw [← meet_turn]; exact this
 ·subst q; rw [hi] at hj; injection hj with hj; exact absurd hj hne
 ·have := (h2 j i f e q hj hi).2.2
  rw [← meet_eq _ _ _ _ (ne e he) (ne f hf)] at this
  exact this
theorem lines_sep (H : RightP vs es) {e f : Eg} (he : e ∈ es) (hf : f ∈ es) (hne : e ≠ f) : (lnE vs e).Sep (lnE vs f) := by
 have h := pair_apart H he hf hne
 have i1 := edge_in H he
 have i2 := edge_in H hf
 refine sep_of i1.1 i1.2.1 i2.1 i2.2.1 (Xr_lt.2 i1.2.2) (Xr_lt.2 i2.2.2) ?_
 have sw : ∀ a b c d : Pt, meetL a b d c = meetL a b c d := fun a b c d => by rw [← meet_turn, meet_swap, meet_turn]
 rcases ends_two vs e with ⟨h1, h2⟩ | ⟨h1, h2⟩ <;> rcases ends_two vs f with ⟨h3, h4⟩ | ⟨h3, h4⟩ <;> rw [h1, h2, h3, h4]
 ·exact h
 ·rw [sw]; exact h
 ·rw [meet_swap]; exact h
 ·rw [sw, meet_swap]; exact h
theorem off_line (H : RightP vs es) {e : Eg} (he : e ∈ es) {v : Vt} (hv : v ∈ vs) (h1 : Xi (loP vs e) < Xi v.p) (h2 : Xi v.p < Xi (hiP vs e)) : (lnE vs e).at (Xr v.p) ≠ Yr v.p := by
 intro e0
 have i := edge_in H he
 have iv := inP_b (H.verts.each v hv).2
 have hz := (at_zero (Xr_lt.2 i.2.2) v.p).1 e0.symm
 have hw := (H.each e he).2.2
 unfold onWayR at hw
 have := List.any_eq_false.1 hw v hv
 rw [← onL_onR] at this
 have h3 : onL v.p (loP vs e) (hiP vs e) = false := by
  rcases ends_two vs e with ⟨h1, h2⟩ | ⟨h1, h2⟩ <;> rw [h1, h2]
  ·simpa using this
  ·rw [onL_swap]; simpa using this
 exact on_no iv i.1 i.2.1 hz h3 ⟨Xr_lt.2 h1, Xr_lt.2 h2⟩
end Go.Proofs.YtlhmjhildlnokaaGreat
namespace Go.Proofs.YtlhmjhildlnokaaGreat
set_option linter.unusedVariables false
set_option linter.unusedSimpArgs false
open Go.RowKit Go.Sort Go.Shelf
def allZ (a b : Tz) : Int := orZ [leftsZ a b, cmpZ a.bot b.bot, cmpZ a.top b.top]
theorem or3 (a b c : Int) : orZ [a, b, c] = if a ≠ 0 then a else if b ≠ 0 then b else c := by
 by_cases h1 : a = 0 <;> by_cases h2 : b = 0 <;> by_cases h3 : c = 0 <;> simp [orZ, h1, h2, h3]
theorem cmp_cases (a b : Int) : (a < b ∧ cmpZ a b = -1) ∨ (a = b ∧ cmpZ a b = 0) ∨ (b < a ∧ cmpZ a b = 1) := by
 unfold cmpZ
 rcases Int.lt_trichotomy a b with h | h | h
 ·left; exact ⟨h, by rw [if_pos h]⟩
 ·right; left; exact ⟨h, by rw [if_neg (by omega), if_neg (by omega)]⟩
 ·right; right; exact ⟨h, by rw [if_neg (by omega), if_pos h]⟩
theorem lefts_neg (a b : Tz) : leftsZ a b < 0 ↔ ltT a b = true := by unfold ltT; rw [decide_eq_true_eq]
theorem lefts_pos (a b : Tz) : 0 < leftsZ a b ↔ leftsZ b a < 0 := by
 have asy : ∀ p q : Pt, lessB p q = true → lessB q p = false := fun p q h => by
  have h1 : LessP p q := of_decide_eq_true h
  refine decide_eq_false fun h2 => ?_
  unfold LessP at h1 h2
  omega
 unfold leftsZ
 cases ha : a.hl <;> cases hb : b.hl <;> simp
 cases h1 : lessB a.l b.l <;> cases h2 : lessB b.l a.l <;> simp
 have := asy _ _ h1
 rw [h2] at this; cases this
def ltA (a b : Tz) : Bool := decide (allZ a b < 0)
theorem ltA_iff (a b : Tz) : ltA a b = true ↔ ltT a b = true ∨ (leftsZ a b = 0 ∧ (a.bot < b.bot ∨ a.bot = b.bot ∧ a.top < b.top)) := by
 unfold ltA allZ
 rw [decide_eq_true_eq, or3, ← lefts_neg]
 rcases cmp_cases a.bot b.bot with ⟨h1, k1⟩ | ⟨h1, k1⟩ | ⟨h1, k1⟩ <;> rcases cmp_cases a.top b.top with ⟨h2, k2⟩ | ⟨h2, k2⟩ | ⟨h2, k2⟩ <;> rw [k1, k2] <;> by_cases h0 : leftsZ a b = 0
 all_goals first
  | (rw [if_neg (by simpa using h0)]; simp <;> omega)
  | (rw [if_pos h0]; simp [h0])
theorem eqL_iff (a b : Tz) : leftsZ a b = 0 ↔ ltT a b = false ∧ ltT b a = false := by
 have h1 := lefts_neg a b
 have h2 := lefts_neg b a
 have h3 := lefts_pos a b
 constructor
 ·intro h
  constructor
  ·cases e : ltT a b
   ·rfl
   ·have := h1.2 e; omega
  ·cases e : ltT b a
   ·rfl
   ·have := h3.2 (h2.2 e); omega
 ·rintro ⟨g1, g2⟩
  have n1 : ¬ leftsZ a b < 0 := fun q => by rw [h1.1 q] at g1; cases g1
  have n2 : ¬ 0 < leftsZ a b := fun q => by rw [h2.1 (h3.1 q)] at g2; cases g2
  omega
theorem ltA_swo : (∀ s : Tz, ltA s s = false) ∧ (∀ s t u : Tz, ltA s t = true → ltA t u = true → ltA s u = true) ∧ (∀ s t u : Tz, ltA s t = false → ltA t u = false → ltA s u = false) := by
 obtain ⟨t1, t2, t3⟩ := ltT_swo
 have bf : ∀ {b : Bool}, ¬ b = true → b = false := fun {b} h => by cases b; rfl; exact absurd rfl h
 have bt : ∀ {b : Bool}, b = false → ¬ b = true := fun {b} h => by rw [h]; simp
 have t4 : ∀ a b, ltT a b = true → ltT b a = false := fun a b h => bf fun g => by have := t2 a b a h g; rw [t1] at this; cases this
 refine ⟨fun s => bf fun h => ?_, fun s t u h1 h2 => ?_, fun s t u h1 h2 => bf fun h => ?_⟩
 ·rw [ltA_iff] at h
  rcases h with h | h
  ·rw [t1] at h; cases h
  ·omega
 ·rw [ltA_iff] at h1 h2 ⊢
  rcases h1 with h1 | ⟨h1, h1'⟩ <;> rcases h2 with h2 | ⟨h2, h2'⟩
  ·exact .inl (t2 _ _ _ h1 h2)
  ·rw [eqL_iff] at h2
   refine .inl (Classical.byContradiction fun g => ?_)
   have := t3 _ _ _ (bf g) h2.2
   rw [h1] at this; cases this
  ·rw [eqL_iff] at h1
   refine .inl (Classical.byContradiction fun g => ?_)
   have := t3 _ _ _ h1.2 (bf g)
   rw [h2] at this; cases this
  ·rw [eqL_iff] at h1 h2
   refine .inr ⟨(eqL_iff _ _).2 ⟨t3 _ _ _ h1.1 h2.1, t3 _ _ _ h2.2 h1.2⟩, by omega⟩
 ·have n1 : ¬ (ltT s t = true ∨ _) := fun g => bt h1 ((ltA_iff s t).2 g)
  have n2 : ¬ (ltT t u = true ∨ _) := fun g => bt h2 ((ltA_iff t u).2 g)
  rw [ltA_iff] at h
  simp only [not_or, not_and] at n1 n2
  obtain ⟨a1, a2⟩ := n1
  obtain ⟨b1, b2⟩ := n2
  have c1 := t3 _ _ _ (bf a1) (bf b1)
  rcases h with h | ⟨h, h'⟩
  ·rw [c1] at h; cases h
  ·rw [eqL_iff] at h
   have d1 : ltT t s = false := by
    cases g : ltT t s
    ·rfl
    ·
     have : ltT t u = true := Classical.byContradiction fun q => by
      have := t3 _ _ _ (bf q) h.2
      rw [g] at this; cases this
     rw [bf b1] at this; cases this
   have e1 := (eqL_iff s t).2 ⟨bf a1, d1⟩
   have d2 : ltT u t = false := bf fun g => by
    have : ltT u s = true := Classical.byContradiction fun q => by
     have := t3 _ _ _ (bf q) (bf a1); exact absurd g (bt this)
    rw [h.2] at this; cases this
   have e2 := (eqL_iff t u).2 ⟨bf b1, d2⟩
   have := a2 e1
   have := b2 e2
   omega
def liveT (P : List Pc) : List Tz := (P.filter fun p => !p.g).map (·.t)
def AllP (P : List Pc) (l : List Tz) : Prop := l.Perm (liveT P) ∧ l.Pairwise fun a b => ltA b a = false
end Go.Proofs.YtlhmjhildlnokaaGreat
