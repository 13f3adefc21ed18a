/-
  The lines of a right plan: they don't cross, and no vertex lies on one. (The same laws stand in EulG: no text imports both.)
-/
import Derived.Test.YtlhmjhildlnokaaM912c1894
import Derived.Test.YtlhmjhildlnokaaMcbf0f224
import Derived.Test.YtlhmjhildlnokaaGeo3
import Derived.Test.YtlhmjhildlnokaaTrap1
import Derived.Test.YtlhmjhildlnokaaBase
import Derived.Test.YtlhmjhildlnokaaPlan0
import Derived.ChangeArms
import Derived.Test.YtlhmjhildlnokaaOwn7
import Derived.Test.YtlhmjhildlnokaaChecked
import Derived.Test.YtlhmjhildlnokaaSigns
namespace Go.Proofs.Ytlhmjhildlnokaa
set_option linter.unusedVariables false
set_option linter.unusedSimpArgs false
variable {vs : List Vt} {es : List Eg}
def loP (vs : List Vt) (e : Eg) : Pt := if Xi (rpt vs e.a) < Xi (rpt vs e.b) then rpt vs e.a else rpt vs e.b

def hiP (vs : List Vt) (e : Eg) : Pt := if Xi (rpt vs e.a) < Xi (rpt vs e.b) then rpt vs e.b else rpt vs e.a

def lnE (vs : List Vt) (e : Eg) : Ln := lnOf (loP vs e) (hiP vs e)

theorem ends_two (vs : List Vt) (e : Eg) : (loP vs e = rpt vs e.a ∧ hiP vs e = rpt vs e.b) ∨ (loP vs e = rpt vs e.b ∧ hiP vs e = rpt vs e.a) := by
  unfold loP hiP; split <;> simp

theorem edge_in (H : RightP vs es) {e : Eg} (he : e ∈ es) : InP (loP vs e) ∧ InP (hiP vs e) ∧ Xi (loP vs e) < Xi (hiP vs e) := by
  have hE := H.each e he
  have i1 := inP_b (rpt_in H.verts hE.2.1.2.1)
  have i2 := inP_b (rpt_in H.verts hE.2.1.2.2)
  have hne := rpt_ne H.verts hE.2.1.1 hE.2.1.2.1 hE.2.1.2.2
  unfold loP hiP
  split
  · rename_i h; exact ⟨i1, i2, h⟩
  · rename_i h
    refine ⟨i2, i1, ?_⟩
    have : Xi (rpt vs e.a) ≠ Xi (rpt vs e.b) := fun q => hne (Xi_inj i1 i2 q)
    omega

theorem pair_apart (H : RightP vs es) {e f : Eg} (he : e ∈ es) (hf : f ∈ es) (hne : e ≠ f) : meetL (rpt vs e.a) (rpt vs e.b) (rpt vs f.a) (rpt vs f.b) = false := by
  have ne : ∀ g ∈ es, rpt vs g.a ≠ rpt vs g.b := fun g hg => by
    have hE := H.each g hg
    exact rpt_ne H.verts hE.2.1.1 hE.2.1.2.1 hE.2.1.2.2
  have h2 := (pairwise_get es).1 H.two
  obtain ⟨i, hi⟩ := List.getElem?_of_mem he
  obtain ⟨j, hj⟩ := List.getElem?_of_mem hf
  rcases Nat.lt_trichotomy i j with q | q | q
  · have := (h2 i j e f q hi hj).2.2
    rw [← meet_eq _ _ _ _ (ne f hf) (ne e he)] at this
    rw [← meet_turn]; exact this
  · subst q; rw [hi] at hj; injection hj with hj; exact absurd hj hne
  · have := (h2 j i f e q hj hi).2.2
    rw [← meet_eq _ _ _ _ (ne e he) (ne f hf)] at this
    exact this

theorem lines_sep (H : RightP vs es) {e f : Eg} (he : e ∈ es) (hf : f ∈ es) (hne : e ≠ f) : (lnE vs e).Sep (lnE vs f) := by
  have h := pair_apart H he hf hne
  have i1 := edge_in H he
  have i2 := edge_in H hf
  refine sep_of i1.1 i1.2.1 i2.1 i2.2.1 (Xr_lt.2 i1.2.2) (Xr_lt.2 i2.2.2) ?_
  have sw : ∀ a b c d : Pt, meetL a b d c = meetL a b c d := fun a b c d => by rw [← meet_turn, meet_swap, meet_turn]
  rcases ends_two vs e with ⟨h1, h2⟩ | ⟨h1, h2⟩ <;> rcases ends_two vs f with ⟨h3, h4⟩ | ⟨h3, h4⟩ <;> rw [h1, h2, h3, h4]
  · exact h
  · rw [sw]; exact h
  · rw [meet_swap]; exact h
  · rw [sw, meet_swap]; exact h

theorem off_line (H : RightP vs es) {e : Eg} (he : e ∈ es) {v : Vt} (hv : v ∈ vs) (h1 : Xi (loP vs e) < Xi v.p) (h2 : Xi v.p < Xi (hiP vs e)) : (lnE vs e).at (Xr v.p) ≠ Yr v.p := by
  intro e0
  have i := edge_in H he
  have iv := inP_b (H.verts.each v hv).2
  have hz := (at_zero (Xr_lt.2 i.2.2) v.p).1 e0.symm
  have hw := (H.each e he).2.2
  unfold onWayR at hw
  have := List.any_eq_false.1 hw v hv
  rw [← onL_onR] at this
  have h3 : onL v.p (loP vs e) (hiP vs e) = false := by
    rcases ends_two vs e with ⟨h1, h2⟩ | ⟨h1, h2⟩ <;> rw [h1, h2]
    · simpa using this
    · rw [onL_swap]; simpa using this
  exact on_no iv i.1 i.2.1 hz h3 ⟨Xr_lt.2 h1, Xr_lt.2 h2⟩

end Go.Proofs.Ytlhmjhildlnokaa

/-
  The lines of a right plan; what is at a point; the same lines, the same trapezes.
-/
namespace Go.Proofs.Ytlhmjhildlnokaa
set_option linter.unusedVariables false
set_option linter.unusedSimpArgs false
open Go.RowKit Go.Sort Go.Shelf
variable {vs : List Vt} {es : List Eg} {S S' : List (Int × Sg)} {N N' : List Nd} {P P' : List Pc}
/-! ### The lines of a right plan -/
theorem seg_ends (H : RightP vs es) {e : Eg} (he : e ∈ es) : segZ vs e.a e.b = ⟨loP vs e, hiP vs e⟩ := by
  have hE := H.each e he
  have i1 := inP_b (rpt_in H.verts hE.2.1.2.1)
  have i2 := inP_b (rpt_in H.verts hE.2.1.2.2)
  have hne := rpt_ne H.verts hE.2.1.1 hE.2.1.2.1 hE.2.1.2.2
  have hx : Xi (rpt vs e.a) ≠ Xi (rpt vs e.b) := fun q => hne (Xi_inj i1 i2 q)
  unfold segZ loP hiP
  by_cases h : Xi (rpt vs e.a) < Xi (rpt vs e.b)
  · rw [if_pos h, if_pos h, if_neg]
    rw [less_X i2 i1, Xr_lt]; omega
  · rw [if_neg h, if_neg h, if_pos]
    rw [less_X i2 i1, Xr_lt]; omega
/-- These lines are the plan's, each once. -/
structure OfPlan (vs : List Vt) (es : List Eg) (S : List (Int × Sg)) : Prop where
  keys : (S.map (·.1)).Nodup
  mem : ∀ q ∈ S, ∃ e ∈ es, q = (e.id, segZ vs e.a e.b)
theorem vt_of {id : Int} (h : (vs.find? fun v => v.id == id).isSome = true) : ∃ v ∈ vs, rpt vs id = v.p := by
  obtain ⟨v, hv⟩ := Option.isSome_iff_exists.1 h
  exact ⟨v, List.mem_of_find?_eq_some hv, by unfold rpt; rw [hv]; rfl⟩
theorem OfPlan.ok (H : RightP vs es) (h : OfPlan vs es S) : SOk S := by
  have lnq : ∀ e ∈ es, lnS (segZ vs e.a e.b) = lnE vs e := fun e he => by rw [seg_ends H he]; rfl
  refine ⟨fun q hq => ?_, h.keys, fun q hq => ?_, fun q hq r hr hne => ?_, fun q hq r hr e he hs => ?_⟩
  · obtain ⟨e, he, rfl⟩ := h.mem q hq
    have := (H.each e he).1
    show e.id ≠ 0
    omega
  · obtain ⟨e, he, rfl⟩ := h.mem q hq
    rw [seg_ends H he]
    exact edge_in H he
  · obtain ⟨e, he, rfl⟩ := h.mem q hq
    obtain ⟨f, hf, rfl⟩ := h.mem r hr
    rw [lnq e he, lnq f hf]
    exact lines_sep H he hf (fun q => hne (by rw [q]))
  · obtain ⟨g, hg, rfl⟩ := h.mem q hq
    obtain ⟨f, hf, rfl⟩ := h.mem r hr
    simp only at hs he ⊢
    rw [lnq g hg] at hs ⊢
    rw [seg_ends H hf] at he
    have hE := H.each f hf
    obtain ⟨v1, m1, e1⟩ := vt_of hE.2.1.2.1
    obtain ⟨v2, m2, e2⟩ := vt_of hE.2.1.2.2
    have hv : ∃ v ∈ vs, e = v.p := by
      rcases ends_two vs f with ⟨h1, h2⟩ | ⟨h1, h2⟩ <;> rw [h1, h2] at he <;> rcases he with he | he
      · exact ⟨v1, m1, he.trans e1⟩
      · exact ⟨v2, m2, he.trans e2⟩
      · exact ⟨v2, m2, he.trans e2⟩
      · exact ⟨v1, m1, he.trans e1⟩
    obtain ⟨v, hv, rfl⟩ := hv
    exact off_line H hg hv (Xr_lt.1 hs.1) (Xr_lt.1 hs.2)

theorem Desc.toZ (O : SOk S) {q : Pt} (iq : InP q) {k n : Nat} {r : Ans} (h : Desc N S (Xr q) (Yr q) k n r) : DescZ N S q k n r := by
  have ts : ∀ {id : Int} {s : Sg}, (id, s) ∈ S → sgOf S id = s ∧ (turnB s.a s.b q = 1 ↔ (lnS s).at (Xr q) < Yr q) ∧ (turnB s.a s.b q = -1 ↔ Yr q < (lnS s).at (Xr q)) ∧ (turnB s.a s.b q = 0 ↔ Yr q = (lnS s).at (Xr q)) := fun {id s} hs => by
    have r := O.rng _ hs
    obtain ⟨a, b, c⟩ := turn_sign (c := q) r.1 r.2.1 iq (Xr_lt.2 r.2.2)
    have pm := turnB_pm s.a s.b q
    simp only at a b c
    refine ⟨sgOf_mem O hs, ?_, ?_, c⟩
    · show _ ↔ (lnOf s.a s.b).at _ < _
      rw [← a]; omega
    · show _ ↔ _ < (lnOf s.a s.b).at _
      rw [← b]; omega
  induction h with
  | leaf h hk => exact .leaf h hk
  | ptL h hk hp hx hm _ ih => exact .ptL h hk ((less_X iq hp).2 hx) hm ih
  | ptR h hk hp hx hm _ ih =>
    refine .ptR h hk ?_ hm ih
    cases e : lessB q _
    · rfl
    · have := (less_X iq hp).1 e; exact absurd hx (by grind)
  | lnU h hk hs hy hm _ ih =>
    obtain ⟨e, t1, _⟩ := ts hs
    exact .lnU h hk (by rw [e]; exact t1.2 hy) hm ih
  | lnD h hk hs hy hm _ ih =>
    obtain ⟨e, _, t1, _⟩ := ts hs
    exact .lnD h hk (by rw [e]; exact t1.2 hy) hm ih
  | on h hk hs hy =>
    obtain ⟨e, _, _, t1⟩ := ts hs
    exact .on h hk (by rw [e]; exact t1.2 hy)
/-- A point stands in a trapeze, as it is asked in whole numbers. -/
structure InZ (S : List (Int × Sg)) (t : Tz) (q : Pt) : Prop where
  l : t.hl = true → lessB t.l q = true
  r : t.hr = true → lessB q t.r = true
  b : t.bot ≠ 0 → 0 < turnZ (sgOf S t.bot).a (sgOf S t.bot).b q
  t : t.top ≠ 0 → turnZ (sgOf S t.top).a (sgOf S t.top).b q < 0
theorem turnB_in {a b c : Pt} (ia : InP a) (ib : InP b) (ic : InP c) : turnB a b c = turnZ a b c := by unfold turnB; rw [inB_t ia, inB_t ib, inB_t ic]; rfl
theorem inZ_iff (O : SOk S) {t : Tz} (V : Val S t) {q : Pt} (iq : InP q) : InZ S t q ↔ InT S t (Xr q) (Yr q) := by
  have kb : t.bot ≠ 0 → (0 < turnZ (sgOf S t.bot).a (sgOf S t.bot).b q ↔ (botL S t).at (Xr q) < Yr q) := fun h => by
    have r := O.rng _ (V.bot h).1
    rw [← turnB_in r.1 r.2.1 iq]
    exact (turn_sign (c := q) r.1 r.2.1 iq (Xr_lt.2 r.2.2)).1
  have kt : t.top ≠ 0 → (turnZ (sgOf S t.top).a (sgOf S t.top).b q < 0 ↔ Yr q < (topL S t).at (Xr q)) := fun h => by
    have r := O.rng _ (V.top h).1
    rw [← turnB_in r.1 r.2.1 iq]
    exact (turn_sign (c := q) r.1 r.2.1 iq (Xr_lt.2 r.2.2)).2.1
  constructor
  · rintro ⟨a, b, c, d⟩
    exact ⟨⟨fun h => (less_X (O.endIn (V.wl h).1) iq).1 (a h), fun h => (less_X iq (O.endIn (V.wr h).1)).1 (b h)⟩, fun h => (kb h).1 (c h), fun h => (kt h).1 (d h)⟩
  · rintro ⟨⟨a, b⟩, c, d⟩
    exact ⟨fun h => (less_X (O.endIn (V.wl h).1) iq).2 (a h), fun h => (less_X iq (O.endIn (V.wr h).1)).2 (b h), fun h => (kb h).2 (c h), fun h => (kt h).2 (d h)⟩
/-- What is at a point. -/
theorem TI.find (T : TI S N P) {q : Pt} (iq : InP q) (hq : ¬ EndS S q) :
    (∃ k id sg, (id, sg) ∈ S ∧ (lnS sg).spans (Xr q) ∧ Yr q = (lnS sg).at (Xr q) ∧ DescZ N S q k 0 (.on id)) ∨
    (∃ (k i : Nat) (p : Pc), P[i]? = some p ∧ p.g = false ∧ N[p.n.toNat]? = some (lfN i) ∧ InT S p.t (Xr q) (Yr q) ∧ DescZ N S q k 0 (.leaf p.n.toNat)) := by
  rcases T.down (Xr q) (Yr q) (fun e he hx => hq (by
    have := Xi_inj iq (T.ok.endIn he) (Xr_eq.1 hx)
    rw [this]; exact he)) with ⟨k, id, sg, h1, h2, h3, h4⟩ | ⟨k, i, p, h1, h2, h3, h4⟩
  · exact .inl ⟨k, id, sg, h1, h2, h3, h4.toZ T.ok iq⟩
  · exact .inr ⟨k, i, p, h1, h2, T.leaf i p h1 h2, h3, h4.toZ T.ok iq⟩
/-! ### The same lines, the same trapezes -/
theorem sgOf_perm (h : S.Perm S') (O : SOk S) (id : Int) : sgOf S id = sgOf S' id := by unfold sgOf; rw [getA_perm h O.keys]
theorem inT_perm (h : S.Perm S') (O : SOk S) {t : Tz} {x y : Rat} : InT S t x y ↔ InT S' t x y := by
  have e1 : botL S t = botL S' t := by unfold botL; rw [sgOf_perm h O]
  have e2 : topL S t = topL S' t := by unfold topL; rw [sgOf_perm h O]
  constructor
  · rintro ⟨a, b, c⟩; exact ⟨a, by rw [← e1]; exact b, by rw [← e2]; exact c⟩
  · rintro ⟨a, b, c⟩; exact ⟨a, by rw [e1]; exact b, by rw [e2]; exact c⟩
theorem endS_perm (h : S.Perm S') {e : Pt} : EndS S e ↔ EndS S' e := by
  unfold EndS
  constructor
  · rintro ⟨q, hq, he⟩; exact ⟨q, h.mem_iff.1 hq, he⟩
  · rintro ⟨q, hq, he⟩; exact ⟨q, h.mem_iff.2 hq, he⟩
theorem val_perm (h : S.Perm S') (O : SOk S) {t : Tz} (V : Val S' t) : Val S t := by
  have e1 : botL S t = botL S' t := by unfold botL; rw [sgOf_perm h O]
  have e2 : topL S t = topL S' t := by unfold topL; rw [sgOf_perm h O]
  refine ⟨fun hb => ?_, fun hb => ?_, V.lr, fun h1 h2 x hx => ?_, fun hl => ?_, fun hl => ?_, fun q hq x hx hI => ?_, V.zl, V.zr⟩
  · rw [sgOf_perm h O]
    obtain ⟨a, b⟩ := V.bot hb
    exact ⟨h.mem_iff.2 a, b⟩
  · rw [sgOf_perm h O]
    obtain ⟨a, b⟩ := V.top hb
    exact ⟨h.mem_iff.2 a, b⟩
  · rw [e1, e2]; exact V.bt h1 h2 x hx
  · rw [e1, e2]
    obtain ⟨a, b⟩ := V.wl hl
    exact ⟨(endS_perm h).2 a, b⟩
  · rw [e1, e2]
    obtain ⟨a, b⟩ := V.wr hl
    exact ⟨(endS_perm h).2 a, b⟩
  · exact V.free q (h.mem_iff.1 hq) x hx ((inT_perm h O).1 hI)
theorem mem_live {t : Tz} : t ∈ liveT P ↔ ∃ (i : Nat) (p : Pc), P[i]? = some p ∧ p.g = false ∧ p.t = t := by
  unfold liveT
  rw [List.mem_map]
  constructor
  · rintro ⟨p, hp, rfl⟩
    obtain ⟨h1, h2⟩ := List.mem_filter.1 hp
    obtain ⟨i, hi⟩ := List.getElem?_of_mem h1
    exact ⟨i, p, hi, by simpa using h2, rfl⟩
  · rintro ⟨i, p, h1, h2, rfl⟩
    exact ⟨p, List.mem_filter.2 ⟨List.mem_of_getElem? h1, by rw [h2]; rfl⟩, rfl⟩
theorem TI.nodup (T : TI S N P) : (liveT P).Nodup := by
  unfold liveT
  have h : P.Pairwise fun p q => p.g = false → q.g = false → p.t ≠ q.t := by
    rw [List.pairwise_iff_getElem]
    intro i j hi hj hij h1 h2 e
    have := T.dist i j _ _ (List.getElem?_eq_getElem hi) (List.getElem?_eq_getElem hj) h1 h2 e
    omega
  rw [List.Nodup, List.pairwise_map]
  have h2 := h.filter fun p => !p.g
  refine List.Pairwise.imp_of_mem ?_ h2
  intro a b ha hb hab
  exact hab (by simpa using (List.mem_filter.1 ha).2) (by simpa using (List.mem_filter.1 hb).2)
theorem TI.sub (T : TI S N P) (T' : TI S' N' P') (h : S.Perm S') {t : Tz} (ht : t ∈ liveT P) : t ∈ liveT P' := by
  obtain ⟨i, p, h1, h2, rfl⟩ := mem_live.1 ht
  have V := T.val i p h1 h2
  obtain ⟨x, hx, hE⟩ := V.someX (endsX S)
  obtain ⟨y, hy⟩ := V.someY hx
  rcases T'.down x y (fun e he => endsX_iff.1 hE e ((endS_perm h).2 he)) with ⟨_, id, sg, g1, g2, g3, _⟩ | ⟨_, j, p', g1, g2, g3, _⟩
  · exact absurd (by rw [← g3]; exact hy) (V.free (id, sg) (h.mem_iff.2 g1) x g2)
  · have := val_uniq T.ok V (val_perm h T.ok (T'.val j p' g1 g2)) hy ((inT_perm h T.ok).2 g3)
    exact mem_live.2 ⟨j, p', g1, g2, this.symm⟩
theorem perm_of_nodup {α : Type} [DecidableEq α] {l m : List α} (h1 : l.Nodup) (h2 : m.Nodup) (h : ∀ a, a ∈ l ↔ a ∈ m) : l.Perm m := (List.perm_ext_iff_of_nodup h1 h2).2 h
theorem TI.perm (T : TI S N P) (T' : TI S' N' P') (h : S.Perm S') : (liveT P).Perm (liveT P') :=
  perm_of_nodup T.nodup T'.nodup fun t => ⟨T.sub T' h, T'.sub T h.symm⟩
/-- One trapeze about a point. -/
theorem TI.only (T : TI S N P) {q : Pt} (iq : InP q) {i j : Nat} {p p' : Pc} (h1 : P[i]? = some p) (h2 : p.g = false) (h3 : P[j]? = some p') (h4 : p'.g = false) (g : InZ S p.t q) (g' : InZ S p'.t q) : i = j := by
  have V := T.val i p h1 h2
  have V' := T.val j p' h3 h4
  exact T.dist i j p p' h1 h3 h2 h4 (val_uniq T.ok V V' ((inZ_iff T.ok V iq).1 g) ((inZ_iff T.ok V' iq).1 g'))
/-- What is found with the same lines is the same. -/
theorem TI.same (T : TI S N P) (T' : TI S' N' P') (h : S.Perm S') {q : Pt} (iq : InP q) :
    (∀ {id id' sg sg'}, (id, sg) ∈ S → (id', sg') ∈ S' → (lnS sg).spans (Xr q) → (lnS sg').spans (Xr q) → Yr q = (lnS sg).at (Xr q) → Yr q = (lnS sg').at (Xr q) → id = id') ∧
    (∀ {id sg} {j : Nat} {p' : Pc}, (id, sg) ∈ S → (lnS sg).spans (Xr q) → Yr q = (lnS sg).at (Xr q) → P'[j]? = some p' → p'.g = false → InT S' p'.t (Xr q) (Yr q) → False) ∧
    (∀ {i j : Nat} {p p' : Pc}, P[i]? = some p → p.g = false → InT S p.t (Xr q) (Yr q) → P'[j]? = some p' → p'.g = false → InT S' p'.t (Xr q) (Yr q) → p.t = p'.t) := by
  refine ⟨fun {id id' sg sg'} h1 h2 s1 s2 e1 e2 => ?_, fun {id sg j p'} h1 s1 e1 g1 g2 g3 => ?_, fun {i j p p'} h1 h2 h3 g1 g2 g3 => ?_⟩
  · by_cases e : (id, sg) = (id', sg')
    · exact congrArg Prod.fst e
    · exact absurd (e1.symm.trans e2) (T.ok.sep _ h1 _ (h.mem_iff.2 h2) e _ s1 s2)
  · have V' := T'.val j p' g1 g2
    exact V'.free _ (h.mem_iff.1 h1) _ s1 (by rw [← e1]; exact g3)
  · exact val_uniq T.ok (T.val i p h1 h2) (val_perm h T.ok (T'.val j p' g1 g2)) h3 ((inT_perm h T.ok).2 g3)
end Go.Proofs.Ytlhmjhildlnokaa

/-
  All trapezes, in order.
-/
namespace Go.Proofs.Ytlhmjhildlnokaa
set_option linter.unusedVariables false
set_option linter.unusedSimpArgs false
open Go.RowKit Go.Sort Go.Shelf
variable {vs : List Vt} {es : List Eg} {S S' : List (Int × Sg)} {N N' : List Nd} {P P' : List Pc}
/-- Two trapezes that begin at one wall between the same lines are one. -/
theorem all_anti (O : SOk S) {t t' : Tz} (V : Val S t) (V' : Val S t') (h1 : ltA t t' = false) (h2 : ltA t' t = false) : t = t' := by
  have bt : ∀ {b : Bool}, b = false → ¬ b = true := fun {b} h => by rw [h]; simp
  have n1 := bt h1
  have n2 := bt h2
  rw [ltA_iff] at n1 n2
  simp only [not_or, not_and] at n1 n2
  have z : leftsZ t t' = 0 := (eqL_iff _ _).2 ⟨by cases e : ltT t t'; rfl; exact absurd e n1.1, by cases e : ltT t' t; rfl; exact absurd e n2.1⟩
  have z' : leftsZ t' t = 0 := by rw [eqL_iff] at z ⊢; exact ⟨z.2, z.1⟩
  have m1 := n1.2 z
  have m2 := n2.2 z'
  have eb : t.bot = t'.bot := by omega
  have et : t.top = t'.top := by omega
  obtain ⟨ehl, el⟩ := lefts_zero.1 z
  -- a place right of the wall, within both
  have hx : ∃ x, InX t x ∧ InX t' x := by
    cases hl : t.hl
    · have hl' : t'.hl = false := ehl ▸ hl
      obtain ⟨x, hx⟩ : ∃ x : Rat, (t.hr = true → x < Xr t.r) ∧ (t'.hr = true → x < Xr t'.r) := by
        by_cases g : Xr t.r < Xr t'.r
        · exact ⟨Xr t.r - 1, fun _ => by grind, fun _ => by grind⟩
        · exact ⟨Xr t'.r - 1, fun _ => by grind, fun _ => by grind⟩
      exact ⟨x, ⟨fun h => absurd (hl.symm.trans h) (by simp), hx.1⟩, ⟨fun h => absurd (hl'.symm.trans h) (by simp), hx.2⟩⟩
    · have hl' : t'.hl = true := ehl ▸ hl
      have e := el hl
      have n1 : Nr (Xr t.l) fun x => t.hr = true → x < Xr t.r := Nr.imp fun h => Nr.lt (Xr_lt.2 (V.lr hl h))
      have n2 : Nr (Xr t.l) fun x => t'.hr = true → x < Xr t'.r := Nr.imp fun h => Nr.lt (by rw [e]; exact Xr_lt.2 (V'.lr hl' h))
      obtain ⟨x, g1, g2, g3⟩ := (n1.and n2).right
      exact ⟨x, ⟨fun _ => g1, g2⟩, ⟨fun _ => by rw [← e]; exact g1, g3⟩⟩
  obtain ⟨x, i1, i2⟩ := hx
  obtain ⟨y, hy⟩ := V.someY i1
  refine val_uniq O V V' hy ⟨i2, fun h => ?_, fun h => ?_⟩
  · have := hy.lo (by rw [eb]; exact h)
    unfold botL at this ⊢
    rw [eb] at this; exact this
  · have := hy.hi (by rw [et]; exact h)
    unfold topL at this ⊢
    rw [et] at this; exact this
/-- A list in order is one. -/
theorem sorted_one {α : Type} {lt : α → α → Bool} : ∀ {l m : List α}, l.Perm m → l.Pairwise (fun a b => lt b a = false) → m.Pairwise (fun a b => lt b a = false) → (∀ a ∈ l, ∀ b ∈ l, lt a b = false → lt b a = false → a = b) → l = m
  | [], m, h, _, _, _ => by rw [List.nil_perm.1 h]
  | a :: l, [], h, _, _, _ => by have := h.length_eq; simp at this
  | a :: l, b :: m, h, h1, h2, h3 => by
    have hb : b ∈ a :: l := h.mem_iff.2 (by simp)
    have ha : a ∈ b :: m := h.mem_iff.1 (by simp)
    have e : a = b := by
      rcases List.mem_cons.1 hb with hb' | hb'
      · exact hb'.symm
      · rcases List.mem_cons.1 ha with ha' | ha'
        · exact ha'
        · exact h3 a (by simp) b hb ((List.pairwise_cons.1 h2).1 a ha') ((List.pairwise_cons.1 h1).1 b hb')
    subst e
    rw [sorted_one ((List.perm_cons a).1 h) (List.pairwise_cons.1 h1).2 (List.pairwise_cons.1 h2).2 fun x hx y hy => h3 x (by simp [hx]) y (by simp [hy])]
theorem allP_same (T : TI S N P) (T' : TI S' N' P') (h : S.Perm S') {l l' : List Tz} (a : AllP P l) (a' : AllP P' l') : l = l' := by
  refine sorted_one (a.1.trans ((T.perm T' h).trans a'.1.symm)) a.2 a'.2 fun t ht u hu g1 g2 => ?_
  obtain ⟨i, p, h1, h2, rfl⟩ := mem_live.1 (a.1.mem_iff.1 ht)
  obtain ⟨j, q, h3, h4, rfl⟩ := mem_live.1 (a.1.mem_iff.1 hu)
  exact all_anti T.ok (T.val i p h1 h2) (T.val j q h3 h4) g1 g2
end Go.Proofs.Ytlhmjhildlnokaa

/-
  What was built: an index of the plan's lines.
-/
namespace Go.Proofs.Ytlhmjhildlnokaa
set_option linter.unusedVariables false
set_option linter.unusedSimpArgs false
open Go.RowKit Go.Sort Go.Shelf
variable {vs : List Vt} {es : List Eg} {L L' : List (Int × Sg)} {X Y : IxS} {os : List Int}
/-! ### What was built -/
theorem PutsR.ti (H : RightP vs es) (h : PutsR L X) : OfPlan vs es L → TI L X.N X.P := by
  induction h with
  | nil => exact fun _ => TI.start
  | put h hid hp ih =>
    intro O
    have O' : OfPlan vs es _ := ⟨(List.nodup_cons.1 O.keys).2, fun q hq => O.mem q (List.mem_cons_of_mem _ hq)⟩
    obtain ⟨all, h1, h2, h3, h4, _⟩ := hp
    rw [h.S_] at h1
    rw [h2, h3]
    exact TI.put ⟨O.ok H, ih O', h1⟩
theorem getA_cons2 {K V : Type} [DecidableEq K] (A : List (K × V)) (k k' : K) (v : V) : getA ((k, v) :: A) k' = if k' = k then some v else getA A k' := by
  have : ∀ (l : List (K × V)) (i : Nat), (firstI k' l (i + 1)).map (·.2) = (firstI k' l i).map (·.2) := by
    intro l
    induction l with
    | nil => intro i; rfl
    | cons a l ih =>
      intro i
      obtain ⟨a1, a2⟩ := a
      unfold firstI
      split
      · rfl
      · exact ih (i + 1)
  unfold getA
  rw [firstI]
  split
  · rfl
  · exact this A 0
theorem getA_cut {K V : Type} [DecidableEq K] (k k' : K) : ∀ (A : List (K × V)), getA (cutA A k) k' = if k' = k then none else getA A k'
  | [] => by simp [cutA, getA, firstI]
  | (a, v) :: A => by
    have ih := getA_cut k k' A
    by_cases e : a = k
    · have : cutA ((a, v) :: A) k = cutA A k := by unfold cutA; rw [List.filter_cons_of_neg (by simpa using e)]
      rw [this, ih, getA_cons2]
      subst e
      split
      · rfl
      · rfl
    · have : cutA ((a, v) :: A) k = (a, v) :: cutA A k := by unfold cutA; rw [List.filter_cons_of_pos (by simpa using e)]
      rw [this, getA_cons2, getA_cons2, ih]
      by_cases h1 : k' = a
      · rw [if_pos h1, if_pos h1, if_neg (by rw [h1]; exact e)]
      · rw [if_neg h1, if_neg h1]
theorem PutsR.ends (h : PutsR L X) (p : Pt) : (getA X.E p).getD false = true ↔ EndS L p := by
  induction h with
  | nil =>
    constructor
    · intro h; simp [ix0, getA, firstI] at h
    · rintro ⟨q, hq, _⟩; simp at hq
  | @put l X Y id s h hid hp ih =>
    obtain ⟨all, _, _, _, _, h5⟩ := hp
    rw [h5, getA_cons2, getA_cut, getA_cons2, getA_cut]
    constructor
    · intro g
      by_cases e : p = s.b
      · exact ⟨(id, s), by simp, .inr e⟩
      · rw [if_neg e, if_neg e] at g
        by_cases e2 : p = s.a
        · exact ⟨(id, s), by simp, .inl e2⟩
        · rw [if_neg e2, if_neg e2] at g
          exact (ih.1 g).cons
    · rintro ⟨q, hq, hp⟩
      rcases List.mem_cons.1 hq with rfl | hq
      · rcases hp with rfl | rfl
        · by_cases e : s.a = s.b
          · rw [if_pos e]; rfl
          · rw [if_neg e, if_neg e, if_pos rfl]; rfl
        · rw [if_pos rfl]; rfl
      · have := ih.2 ⟨q, hq, hp⟩
        by_cases e : p = s.b
        · rw [if_pos e]; rfl
        · rw [if_neg e, if_neg e]
          by_cases e2 : p = s.a
          · rw [if_pos e2]; rfl
          · rw [if_neg e2, if_neg e2]; exact this
theorem segs_of (hid : ∀ id ∈ os, (es.find? fun e => e.id == id).isSome = true) (hn : os.Nodup) : OfPlan vs es (segsOf vs es os).reverse := by
  refine ⟨?_, fun q hq => ?_⟩
  · rw [List.map_reverse, segs_keys]; exact (List.reverse_perm os).nodup_iff.2 hn
  · rw [List.mem_reverse] at hq
    unfold segsOf at hq
    obtain ⟨id, hi, rfl⟩ := List.mem_map.1 hq
    obtain ⟨x, y, h1, h2⟩ := edge_find (hid id hi)
    exact ⟨_, h2, by unfold segI; rw [h1]⟩
theorem BldI.ti (H : RightP vs es) (I : BldI vs es os X) : TI (segsOf vs es os).reverse X.N X.P := I.puts.ti H (segs_of I.ids I.nodup)
/-- All edges' lines. -/
def edgeL (vs : List Vt) (es : List Eg) : List (Int × Sg) := es.map fun e => (e.id, segZ vs e.a e.b)
theorem ids_nodup (H : RightP vs es) : (es.map (·.id)).Nodup := by
  rw [List.Nodup, List.pairwise_map]
  exact H.two.imp fun h => by have := h.1; omega
theorem find_edge (H : RightP vs es) {e : Eg} (he : e ∈ es) : (es.find? fun f => f.id == e.id) = some e := by
  have hs : (es.find? fun f => f.id == e.id).isSome = true := List.find?_isSome.2 ⟨e, he, by simp⟩
  obtain ⟨x, y, h1, h2⟩ := edge_find hs
  rw [h1]
  have hn := ids_nodup H
  obtain ⟨i, hi⟩ := List.getElem?_of_mem h2
  obtain ⟨j, hj⟩ := List.getElem?_of_mem he
  have : i = j := (List.getElem?_inj (l := es.map (·.id)) (by rw [List.length_map]; exact (List.getElem?_eq_some_iff.1 hi).1) hn).1 (by rw [List.getElem?_map, List.getElem?_map, hi, hj]; rfl)
  rw [this, hj] at hi
  exact hi.symm
theorem ord_perm (H : RightP vs es) (O : OrdP es os) : os.Perm (es.map (·.id)) := by
  have sub : ∀ id ∈ os, id ∈ es.map (·.id) := fun id hi => by
    obtain ⟨x, y, _, h2⟩ := edge_find (O.2.1 id hi)
    exact List.mem_map.2 ⟨_, h2, rfl⟩
  -- as many, each once
  have key : ∀ (l m : List Int), l.Nodup → (∀ x ∈ l, x ∈ m) → l.length = m.length → l.Perm m := by
    intro l
    induction l with
    | nil => intro m _ _ h; rw [List.length_eq_zero_iff.1 h.symm]
    | cons a l ih =>
      intro m h1 h2 h3
      have ha := h2 a (by simp)
      have h1' := List.nodup_cons.1 h1
      have hl := List.length_pos_of_mem ha
      have := ih (m.erase a) h1'.2 (fun x hx => (List.mem_erase_of_ne (by rintro rfl; exact h1'.1 hx)).2 (h2 x (by simp [hx]))) (by
        rw [List.length_erase_of_mem ha]; simp only [List.length_cons] at h3; omega)
      exact (this.cons a).trans (List.perm_cons_erase ha).symm
  exact key os _ O.2.2 sub (by rw [List.length_map]; exact O.1)
theorem segs_perm (H : RightP vs es) (O : OrdP es os) : (segsOf vs es os).reverse.Perm (edgeL vs es) := by
  refine (List.reverse_perm _).trans ?_
  unfold segsOf
  refine ((ord_perm H O).map _).trans ?_
  rw [List.map_map]
  unfold edgeL
  have : es.map ((fun id => (id, segI vs es id)) ∘ fun x => x.id) = es.map fun e => (e.id, segZ vs e.a e.b) := List.map_congr_left fun e he => by
    show (e.id, segI vs es e.id) = _
    unfold segI
    rw [find_edge H he]
  rw [this]
end Go.Proofs.Ytlhmjhildlnokaa

/-
  Indices built from a plan's edges in any order: what is known of them.
-/
namespace Go.Proofs.Ytlhmjhildlnokaa
set_option linter.unusedVariables false
set_option linter.unusedSimpArgs false
open Go.RowKit Go.Sort Go.Shelf

theorem wf_u8 {n : Int} (h : (Lit.int .u8 n).wf = true) : 0 ≤ n ∧ n < 256 := by
  have := bounds_u8 h
  omega
theorem ordP_of {vs : List Vt} {es : List Eg} {os : List Int} (H : RightP vs es) (h : os.Perm (es.map (·.id))) : OrdP es os := by
  refine ⟨by rw [h.length_eq, List.length_map], fun id hi => ?_, h.nodup_iff.2 (ids_nodup H)⟩
  obtain ⟨e, he, rfl⟩ := List.mem_map.1 (h.mem_iff.1 hi)
  exact List.find?_isSome.2 ⟨e, he, by simp⟩
theorem perm_len {es : List Eg} {os : List Int} {m : Nat} (h : os.Perm (es.map (·.id))) (hm : m = es.length) (hl : m ≤ 40) : os.length ≤ 40 := by rw [h.length_eq, List.length_map, ← hm]; exact hl
theorem build_yesR {vs : List Vt} {es : List Eg} (hr : rightB vs es = true) (os : List Int) (A A2 A3 : Option Addr) (n m q : Nat) (c c2 c3 : Nat) (hn : n = vs.length) (hm : m = es.length) (hq : q = os.length) (hl : n ≤ 1000000) (hl2 : m ≤ 40) (hc2 : m ≤ c2) (hcc : c2 ≤ maxLen) (w : World) (hp : os.Perm (es.map (·.id))) (hs : Sl (fun _ => False) w A (vR vs)) (hs2 : Sl (fun _ => False) w A2 (eR es)) (hs3 : Sl (fun _ => False) w A3 (oR os)) :
    Calls Try.prog 37 #[.agg #[.slice A n c, .slice A2 m c2], .slice A3 q c3] w fun e w' => ∃ X bx ks ke cn cp dn dp, e = .returned (.tuple #[.pointer (some ⟨bx, 0, none⟩), .int .i64 0]) ∧ BldI vs es os X ∧ Own w.heap.size w w' (xL bx ks ke cn cp dn dp X []) := by
  refine (build_any vs es os A A2 A3 n m q c c2 c3 (fun _ => False) w hn hm hq hs hs2 hs3 (fun _ h => h.elim) hl hl2 hc2 hcc).mono ?_
  rintro e w' (⟨h, _⟩ | ⟨_, h⟩)
  · unfold buildB at h
    rw [hr, decide_eq_true (ordP_of (rightT_P hr) hp)] at h
    cases h
  · exact h
theorem build_noR {vs : List Vt} {es : List Eg} (hr : rightB vs es = false) (os : List Int) (A A2 A3 : Option Addr) (n m q : Nat) (c c2 c3 : Nat) (hn : n = vs.length) (hm : m = es.length) (hq : q = os.length) (hl : n ≤ 1000000) (hl2 : m ≤ 40) (hc2 : m ≤ c2) (hcc : c2 ≤ maxLen) (w : World) (hs : Sl (fun _ => False) w A (vR vs)) (hs2 : Sl (fun _ => False) w A2 (eR es)) (hs3 : Sl (fun _ => False) w A3 (oR os)) :
    Calls Try.prog 37 #[.agg #[.slice A n c, .slice A2 m c2], .slice A3 q c3] w fun e w' => e = .returned (.tuple #[.pointer none, .int .i64 1]) ∧ Below w.heap.size w w' := by
  refine (build_any vs es os A A2 A3 n m q c c2 c3 (fun _ => False) w hn hm hq hs hs2 hs3 (fun _ h => h.elim) hl hl2 hc2 hcc).mono ?_
  rintro e w' (⟨_, h⟩ | ⟨h, _⟩)
  · exact h
  · unfold buildB at h
    rw [hr] at h
    cases h
theorem bld_ixN {vs : List Vt} {es : List Eg} {os : List Int} {X : IxS} (I : BldI vs es os X) (h : os.length ≤ 40) : IxN os.length X.N X.P := by
  have e : ((segsOf vs es os).reverse).length = os.length := by rw [List.length_reverse]; unfold segsOf; rw [List.length_map]
  have := I.puts.ixN (by rw [e]; exact h)
  rw [e] at this
  exact this
theorem bld_sizes {vs : List Vt} {es : List Eg} {os : List Int} {X : IxS} (I : BldI vs es os X) (h : os.length ≤ 40) : X.P.length ≤ 1000000 ∧ X.N.length ≤ 1000000 ∧ liveN X.P ≤ 3 * os.length + 1 := by
  have J := bld_ixN I h
  have h1 := J.pl
  have h2 := J.nl
  exact ⟨by omega, by omega, J.live⟩
theorem tallI {B : Nat} {w0 w : World} {l : List Res} {bx ks ke cn cp dn dp : Nat} {vs : List Vt} {es : List Eg} {os : List Int} {X : IxS} (I : BldI vs es os X) (h : os.length ≤ 40) (H : Own B w0 w (xB bx ks ke X.N.length X.P.length cn cp dn dp :: pG dp X.P.length cp X.P :: l)) :
    Calls Try.prog 40 #[.pointer (some ⟨bx, 0, none⟩)] w fun e w' => ∃ A k c L, e = .returned (.slice A k c) ∧ k = L.length ∧ AllP X.P L ∧ Own B w0 w' (.grow 73 8 (.slice A k c) k (tR L) :: xB bx ks ke X.N.length X.P.length cn cp dn dp :: pG dp X.P.length cp X.P :: l) :=
  tall_any rfl (bld_sizes I h).1 H
end Go.Proofs.Ytlhmjhildlnokaa

/-
  Find at an index that is built from a right plan: what it answers.
-/
namespace Go.Proofs.Ytlhmjhildlnokaa
set_option linter.unusedVariables false
set_option linter.unusedSimpArgs false
open Go.RowKit Go.Sort Go.Shelf

/-- What Find answers. -/
def FindP (vs : List Vt) (es : List Eg) (os : List Int) (X : IxS) (q : Pt) (s1 s2 f : Int) : Prop :=
  (inB q = false ∧ s1 = 0 ∧ s2 = 0 ∧ f = 5) ∨
  (inB q = true ∧ EndS (segsOf vs es os).reverse q ∧ s1 = 0 ∧ s2 = 0 ∧ f = 7) ∨
  (inB q = true ∧ ¬ EndS (segsOf vs es os).reverse q ∧ f = 0 ∧
    ((∃ sg, (s1, sg) ∈ (segsOf vs es os).reverse ∧ (lnS sg).spans (Xr q) ∧ Yr q = (lnS sg).at (Xr q) ∧ s2 = 0) ∨
     (∃ (i : Nat) (p : Pc), X.P[i]? = some p ∧ p.g = false ∧ InT (segsOf vs es os).reverse p.t (Xr q) (Yr q) ∧ s1 = 0 ∧ s2 = p.t.bot)))
theorem xfind_any {B : Nat} {w0 w : World} {l : List Res} {bx ks ke cn cp dn dp : Nat} {vs : List Vt} {es : List Eg} {os : List Int} {X : IxS} (HR : RightP vs es) (I : BldI vs es os X) (h40 : os.length ≤ 40) (x y : Int) (H : Own B w0 w (xL bx ks ke cn cp dn dp X l)) :
    Calls Try.prog 41 #[.pointer (some ⟨bx, 0, none⟩), pV x y] w fun e w' => ∃ s1 s2 f, e = .returned (.tuple #[spV s1 s2, .int .i64 f]) ∧ FindP vs es os X ⟨x, y⟩ s1 s2 f ∧ Own B w0 w' (xL bx ks ke cn cp dn dp X l) := by
  cases hin : inB ⟨x, y⟩
  · refine (findR_any hin H).mono ?_
    rintro e w' ⟨rfl, H2⟩
    exact ⟨0, 0, 5, rfl, .inl ⟨hin, rfl, rfl, rfl⟩, H2⟩
  cases he : (getA X.E ⟨x, y⟩).getD false
  · have hE : ¬ EndS (segsOf vs es os).reverse ⟨x, y⟩ := fun g => by
      have := (I.puts.ends ⟨x, y⟩).2 g
      rw [he] at this; cases this
    have T := I.ti HR
    have hS : X.S = (segsOf vs es os).reverse := I.puts.S_
    obtain ⟨hP, hN, _⟩ := bld_sizes I h40
    rcases T.find (inP_b hin) hE with ⟨k, id, sg, h1, h2, h3, h4⟩ | ⟨k, i, p, h1, h2, h3, h4, h5⟩
    · refine (find_any (r := .on id) hin he (by rw [hS]; exact h4) trivial hN hP H).mono ?_
      rintro e w' ⟨rfl, H2⟩
      exact ⟨id, 0, 0, rfl, .inr (.inr ⟨hin, hE, rfl, .inl ⟨sg, h1, h2, h3, rfl⟩⟩), H2⟩
    · refine (find_any (r := .leaf p.n.toNat) hin he (by rw [hS]; exact h5) ⟨i, p, h3, h1⟩ hN hP H).mono ?_
      rintro e w' ⟨rfl, H2⟩
      refine ⟨0, p.t.bot, 0, ?_, .inr (.inr ⟨hin, hE, rfl, .inr ⟨i, p, h1, h2, h4, rfl, rfl⟩⟩), H2⟩
      simp [spotOf, idN, h3, lfN, h1]
  · refine (findE_any hin he (l := nG dn X.N.length cn X.N :: pG dp X.P.length cp X.P :: mSeg ks X.S :: l) (H.perm (.cons _ ?_))).mono ?_
    · exact (List.perm_middle (l₁ := [nG dn X.N.length cn X.N, pG dp X.P.length cp X.P, mSeg ks X.S]) (a := mEnd ke X.E) (l₂ := l)).symm
    rintro e w' ⟨rfl, H2⟩
    exact ⟨0, 0, 7, rfl, .inr (.inl ⟨hin, (I.puts.ends ⟨x, y⟩).1 he, rfl, rfl, rfl⟩), H2.perm (.cons _ (List.perm_middle (l₁ := [nG dn X.N.length cn X.N, pG dp X.P.length cp X.P, mSeg ks X.S]) (a := mEnd ke X.E) (l₂ := l)))⟩
/-- What is found does not hang on the order. -/
theorem FindP.same {vs : List Vt} {es : List Eg} {os os' : List Int} {X Y : IxS} {q : Pt} {s1 s2 f t1 t2 g : Int} (HR : RightP vs es) (I : BldI vs es os X) (J : BldI vs es os' Y) (hp : (segsOf vs es os).reverse.Perm (segsOf vs es os').reverse) (h : FindP vs es os X q s1 s2 f) (h' : FindP vs es os' Y q t1 t2 g) : s1 = t1 ∧ s2 = t2 ∧ f = g := by
  have hE : EndS (segsOf vs es os).reverse q ↔ EndS (segsOf vs es os').reverse q := endS_perm hp
  rcases h with ⟨a1, rfl, rfl, rfl⟩ | ⟨a1, a2, rfl, rfl, rfl⟩ | ⟨a1, a2, rfl, h⟩
  · rcases h' with ⟨b1, rfl, rfl, rfl⟩ | ⟨b1, _⟩ | ⟨b1, _⟩
    · exact ⟨rfl, rfl, rfl⟩
    · rw [a1] at b1; cases b1
    · rw [a1] at b1; cases b1
  · rcases h' with ⟨b1, _⟩ | ⟨b1, b2, rfl, rfl, rfl⟩ | ⟨b1, b2, _⟩
    · rw [a1] at b1; cases b1
    · exact ⟨rfl, rfl, rfl⟩
    · exact absurd (hE.1 a2) b2
  · rcases h' with ⟨b1, _⟩ | ⟨b1, b2, _⟩ | ⟨b1, b2, rfl, h'⟩
    · rw [a1] at b1; cases b1
    · exact absurd (hE.2 b2) a2
    · have S1 := TI.same (I.ti HR) (J.ti HR) hp (inP_b a1)
      have S2 := TI.same (J.ti HR) (I.ti HR) hp.symm (inP_b a1)
      rcases h with ⟨sg, c1, c2, c3, rfl⟩ | ⟨i, p, c1, c2, c3, rfl, rfl⟩
      · rcases h' with ⟨sg', d1, d2, d3, rfl⟩ | ⟨i, p, d1, d2, d3, rfl, rfl⟩
        · exact ⟨S1.1 c1 d1 c2 d2 c3 d3, rfl, rfl⟩
        · exact (S1.2.1 c1 c2 c3 d1 d2 d3).elim
      · rcases h' with ⟨sg', d1, d2, d3, rfl⟩ | ⟨i', p', d1, d2, d3, rfl, rfl⟩
        · exact (S2.2.1 d1 d2 d3 c1 c2 c3).elim
        · exact ⟨rfl, by rw [S1.2.2 c1 c2 c3 d1 d2 d3], rfl⟩
end Go.Proofs.Ytlhmjhildlnokaa

/-
  The trapezes about a point, as the statement asks for them.
-/
namespace Go.Proofs.Ytlhmjhildlnokaa
set_option linter.unusedVariables false
set_option linter.unusedSimpArgs false
open Go.RowKit Go.Sort Go.Shelf
variable {vs : List Vt} {es : List Eg} {S : List (Int × Sg)} {N : List Nd} {P : List Pc} {X : IxS} {os : List Int} {q : Pt} {t : Tz}
/-! ### The trapezes about a point, as the statement asks for them -/
def sideV (vs : List Vt) (es : List Eg) (id : Int) (q : Pt) : Int := turnZ (segI vs es id).a (segI vs es id).b q
def skipB (vs : List Vt) (es : List Eg) (t : Tz) (q : Pt) : Bool :=
  (t.hl && !lessB t.l q) || ((t.hr && !lessB q t.r) || ((decide (0 < t.bot) && decide (sideV vs es t.bot q ≤ 0)) || (decide (0 < t.top) && decide (0 ≤ sideV vs es t.top q))))
theorem seg_sg {id : Int} {s : Sg} (O : SOk (segsOf vs es os).reverse) (h : (id, s) ∈ (segsOf vs es os).reverse) : s = segI vs es id := by
  rw [List.mem_reverse] at h
  unfold segsOf at h
  obtain ⟨i, _, e⟩ := List.mem_map.1 h
  injection e with e1 e2
  rw [← e1, e2]
theorem id_pos (H : RightP vs es) (I : BldI vs es os X) {id : Int} {s : Sg} (h : (id, s) ∈ (segsOf vs es os).reverse) : 0 < id ∧ (es.find? fun e => e.id == id).isSome = true := by
  obtain ⟨e, he, e1⟩ := (segs_of I.ids I.nodup (vs := vs)).mem _ h
  injection e1 with e1 e2
  subst e1
  have := (H.each e he).1
  exact ⟨by omega, by rw [find_edge H he]; rfl⟩
theorem skip_iff (H : RightP vs es) (I : BldI vs es os X) (V : Val (segsOf vs es os).reverse t) : skipB vs es t q = false ↔ InZ (segsOf vs es os).reverse t q := by
  have O := (I.ti H).ok
  have kb : t.bot ≠ 0 → 0 < t.bot ∧ sgOf (segsOf vs es os).reverse t.bot = segI vs es t.bot := fun h => ⟨(id_pos H I (V.bot h).1).1, seg_sg O (V.bot h).1⟩
  have kt : t.top ≠ 0 → 0 < t.top ∧ sgOf (segsOf vs es os).reverse t.top = segI vs es t.top := fun h => ⟨(id_pos H I (V.top h).1).1, seg_sg O (V.top h).1⟩
  unfold skipB
  simp only [Bool.or_eq_false_iff, Bool.and_eq_false_iff, Bool.not_eq_false', decide_eq_false_iff_not]
  constructor
  · rintro ⟨h1, h2, h3, h4⟩
    refine ⟨fun h => ?_, fun h => ?_, fun h => ?_, fun h => ?_⟩
    · rcases h1 with h1 | h1
      · rw [h] at h1; cases h1
      · exact h1
    · rcases h2 with h1 | h1
      · rw [h] at h1; cases h1
      · exact h1
    · obtain ⟨a, b⟩ := kb h
      rw [b]
      rcases h3 with h1 | h1
      · exact absurd a h1
      · unfold sideV at h1; omega
    · obtain ⟨a, b⟩ := kt h
      rw [b]
      rcases h4 with h1 | h1
      · exact absurd a h1
      · unfold sideV at h1; omega
  · rintro ⟨h1, h2, h3, h4⟩
    refine ⟨?_, ?_, ?_, ?_⟩
    · cases h : t.hl
      · exact .inl rfl
      · exact .inr (h1 h)
    · cases h : t.hr
      · exact .inl rfl
      · exact .inr (h2 h)
    · by_cases h : t.bot = 0
      · left; omega
      · right
        have := h3 h
        rw [(kb h).2] at this
        unfold sideV; omega
    · by_cases h : t.top = 0
      · left; omega
      · right
        have := h4 h
        rw [(kt h).2] at this
        unfold sideV; omega
theorem count_one {α : Type} [DecidableEq α] {f : α → Bool} {a : α} : ∀ {l : List α}, l.Nodup → a ∈ l → (∀ x ∈ l, f x = true ↔ x = a) → l.countP f = 1
  | [], _, h, _ => by cases h
  | b :: l, hn, h, hf => by
    rw [List.nodup_cons] at hn
    rw [List.countP_cons]
    by_cases e : b = a
    · subst e
      have : l.countP f = 0 := by
        rw [List.countP_eq_zero]
        intro x hx hfx
        have := (hf x (by simp [hx])).1 hfx
        subst this
        exact hn.1 hx
      rw [this, if_pos ((hf b (by simp)).2 rfl)]
    · have hfb : ¬ f b = true := fun g => e ((hf b (by simp)).1 g)
      rw [if_neg hfb, Nat.add_zero]
      rcases List.mem_cons.1 h with h | h
      · exact absurd h.symm e
      · exact count_one hn.2 h fun x hx => hf x (by simp [hx])
/-- What TrapTells asks. -/
structure TellsP (vs : List Vt) (es : List Eg) (P : List Pc) (L : List Tz) (q : Pt) (t0 : Tz) : Prop where
  one : L.countP (fun t => !skipB vs es t q) = 1
  bot : ∀ t ∈ L, skipB vs es t q = false → t.bot = t0.bot
theorem tells (H : RightP vs es) (I : BldI vs es os X) {L : List Tz} (hL : AllP X.P L) (iq : InP q) {i : Nat} {p : Pc} (h1 : X.P[i]? = some p) (h2 : p.g = false) (hI : InT (segsOf vs es os).reverse p.t (Xr q) (Yr q)) : TellsP vs es X.P L q p.t := by
  have T := I.ti H
  have hm : p.t ∈ L := hL.1.mem_iff.2 (mem_live.2 ⟨i, p, h1, h2, rfl⟩)
  have key : ∀ t ∈ L, (skipB vs es t q = false ↔ t = p.t) := by
    intro t ht
    obtain ⟨j, p', g1, g2, rfl⟩ := mem_live.1 (hL.1.mem_iff.1 ht)
    have V := T.val j p' g1 g2
    rw [skip_iff H I V, inZ_iff T.ok V iq]
    constructor
    · intro g
      exact val_uniq T.ok V (T.val i p h1 h2) g hI
    · intro e
      rw [e]; exact hI
  refine ⟨count_one (hL.1.nodup_iff.2 T.nodup) hm fun t ht => ?_, fun t ht h => by rw [(key t ht).1 h]⟩
  rw [← key t ht]
  simp
theorem live_len (P : List Pc) : (liveT P).length = liveN P := by
  unfold liveT liveN
  rw [List.length_map, List.countP_eq_length_filter]
/-- Whose lines a trapeze has. -/
theorem val_ids (H : RightP vs es) (I : BldI vs es os X) {L : List Tz} (hL : AllP X.P L) {t : Tz} (ht : t ∈ L) : (0 < t.bot → (es.find? fun e => e.id == t.bot).isSome = true) ∧ (0 < t.top → (es.find? fun e => e.id == t.top).isSome = true) := by
  obtain ⟨j, p', g1, g2, rfl⟩ := mem_live.1 (hL.1.mem_iff.1 ht)
  have V := (I.ti H).val j p' g1 g2
  exact ⟨fun h => (id_pos H I (V.bot (by omega)).1).2, fun h => (id_pos H I (V.top (by omega)).1).2⟩
/-- Points of lines are in range. -/
theorem seg_in (H : RightP vs es) {id x y : Int} (h : (⟨id, x, y⟩ : Eg) ∈ es) : InP (segZ vs x y).a ∧ InP (segZ vs x y).b := by
  have e := seg_ends H h
  simp only at e
  rw [e]
  have := edge_in H h
  exact ⟨this.1, this.2.1⟩
end Go.Proofs.Ytlhmjhildlnokaa

/-
  An argument that is a plan: two rows of structs of three integers.
-/
namespace Go.Proofs.Ytlhmjhildlnokaa
set_option linter.unusedVariables false
set_option linter.constructorNameAsVariable false
open Go.RowKit Go.WideShapes Go.ChangeShapes
theorem add_add (a : Addr) (m j : Nat) : (a.add m).add j = a.add (m + j) := by
  by_cases hm : m = 0
  · subst hm; simp [Addr.add]
  · by_cases hj : j = 0
    · subst hj; simp [Addr.add]
    · simp [Addr.add, hm, hj, Nat.add_assoc]
theorem len2 {l : List Value} (h : l.length = 2) : ∃ a b, l = [a, b] := by
  match l, h with
  | [a, b], _ => exact ⟨a, b, rfl⟩
theorem len3 {l : List Value} (h : l.length = 3) : ∃ a b c, l = [a, b, c] := by
  match l, h with
  | [a, b, c], _ => exact ⟨a, b, c, rfl⟩
section
variable {H : Type} {enc : TypeId × Value → H} {P : Program} {w : World} {base : Nat} {spare : Nat → Bool} {held : Bool}
/-- A row of elements, each of three cells. -/
theorem trod_rows {α : Type} {f : α → List Value} {Q : α → Prop} {t e : TypeId} {n : Nat} {cs : List Value} {y : DataW H × List MemPlace} (ht : P.underlying t = some (.slice e)) (hc : P.cellsOf e = 3) (hf3 : ∀ a, (f a).length = 3)
    (hE : ∀ (n : Nat) cs x, DataW.trod enc P w base spare held n e cs = some x → ∃ a, cs = f a ∧ Q a) (h : DataW.trod enc P w base spare held n t cs = some y) :
    ∃ (A : Option Addr) (cap : Nat) (L : List α), cs = [.slice A L.length cap] ∧ L.length ≤ cap ∧ cap ≤ maxLen ∧ (∀ a ∈ L, Q a) ∧ Row w A (L.flatMap f) := by
  rcases DataW.trod_slice ht h with ⟨rfl, _⟩ | ⟨a, len, cap, elems, rest, n', _, rfl, _, hb, hl, hm, hlen, hel, _⟩
  · exact ⟨none, 0, [], rfl, Nat.le_refl _, Nat.zero_le _, by simp, Row.nil_ _ _⟩
  · have each : ∀ i, i < len → ∃ v : α, Q v ∧ ∀ j u, (f v)[j]? = some u → w.cell? (a.add (i * 3 + j)) = some u := by
      intro i hi
      have h1 := hel i hi
      have h2 : elems[i]? = some elems[i] := List.getElem?_eq_getElem (by omega)
      rw [h2, Option.bind_eq_some_iff] at h1
      obtain ⟨cs', h3, h4⟩ := h1
      obtain ⟨v, rfl, hq⟩ := hE _ _ _ h4
      refine ⟨v, hq, fun j u hj => ?_⟩
      have h5 := World.cells?_some h3
      rw [hc] at h5
      have hj3 : j < 3 := by have := (List.getElem?_eq_some_iff.1 hj).1; rw [hf3] at this; exact this
      have := h5.2.2 j hj3
      rw [hj] at this
      rw [← this, add_add]
    have choose : ∀ k, k ≤ len → ∃ L : List α, L.length = k ∧ (∀ v ∈ L, Q v) ∧ ∀ i v, L[i]? = some v → ∀ j u, (f v)[j]? = some u → w.cell? (a.add (i * 3 + j)) = some u := by
      intro k
      induction k with
      | zero => exact fun _ => ⟨[], rfl, by simp, by simp⟩
      | succ k ih =>
        intro hk
        obtain ⟨L, h1, h2, h3⟩ := ih (by omega)
        obtain ⟨v, h4, h5⟩ := each k (by omega)
        refine ⟨L ++ [v], by simp [h1], fun u hu => ?_, fun i u hi => ?_⟩
        · rcases List.mem_append.1 hu with hu | hu
          · exact h2 u hu
          · obtain rfl := List.mem_singleton.1 hu; exact h4
        · rw [List.getElem?_append] at hi
          split at hi
          · exact h3 i u hi
          · rename_i hik
            have : i - L.length = 0 := by
              by_cases h0 : i - L.length = 0
              · exact h0
              · rw [List.getElem?_eq_none (by simp; omega)] at hi; cases hi
            rw [this] at hi
            obtain rfl : v = u := by simpa using hi
            obtain rfl : i = k := by omega
            exact h5
    obtain ⟨L, h1, h2, h3⟩ := choose len (Nat.le_refl _)
    refine ⟨some a, cap, L, by rw [h1], by omega, hm, h2, Row.of_cells fun j v hv => ?_⟩
    have hj : j < L.length * 3 := by have := (List.getElem?_eq_some_iff.1 hv).1; rwa [flat3_len f hf3] at this
    have hi : j / 3 < L.length := by omega
    have hg : L[j / 3]? = some L[j / 3] := List.getElem?_eq_getElem hi
    have hat := flat3_at f hf3 L (j / 3) _ hg
    have := h3 (j / 3) _ hg (j % 3) v (by
      rw [← hat, List.getElem?_take, if_pos (Nat.mod_lt _ (by omega)), List.getElem?_drop, show j / 3 * 3 + j % 3 = j by omega]; exact hv)
    rwa [show j / 3 * 3 + j % 3 = j by omega] at this
/-- Fields of a struct. -/
theorem trod_flds {fs : Array Field} {t : TypeId} {n : Nat} {cs : List Value} {y : DataW H × List MemPlace} {l : List (TypeId × Nat)} (hu : P.underlying t = some (.struct fs)) (hfs : fs.toList.map (fun f => (f.type, f.offset)) = l)
    (h : DataW.trod enc P w base spare held n t cs = some y) : cs.length = P.cellsOf t ∧ ∀ u o, (u, o) ∈ l → ∃ n' x, DataW.trod enc P w base spare held n' u ((cs.drop o).take (P.cellsOf u)) = some x := by
  obtain ⟨xs, n', _, _, hlen, hxl, hx⟩ := DataW.trod_struct hu h
  refine ⟨hlen, fun u o hm => ?_⟩
  rw [← hfs] at hm
  obtain ⟨f, hf, e⟩ := List.mem_map.1 hm
  simp only [Prod.mk.injEq] at e
  obtain ⟨rfl, rfl⟩ := e
  obtain ⟨i, hi⟩ := List.getElem?_of_mem hf
  have hi' : fs[i]? = some f := by simpa using hi
  have := hx i f hi'
  have hil : i < xs.length := by rw [hxl]; exact (Array.getElem?_eq_some_iff.1 hi').1
  rw [List.getElem?_eq_getElem hil] at this
  exact ⟨n', _, this⟩
end
section
variable {H : Type} {enc : TypeId × Value → H} {w : World} {base : Nat} {spare : Nat → Bool} {held : Bool}
theorem wf64 {n : Int} (h : (Lit.int .i64 n).wf = true) : -9223372036854775808 ≤ n ∧ n ≤ 9223372036854775807 := bounds_i64 h
def In64 (n : Int) : Prop := -9223372036854775808 ≤ n ∧ n ≤ 9223372036854775807
theorem trod_pt {n : Nat} {cs : List Value} {y : DataW H × List MemPlace} (h : DataW.trod enc Try.prog w base spare held n 47 cs = some y) : ∃ a b, cs = [.int .i64 a, .int .i64 b] ∧ In64 a ∧ In64 b := by
  have hu : Try.prog.underlying 47 = some (.struct (Try.prog.fieldsOf 47)) := by kernel_rfl
  have hf : (Try.prog.fieldsOf 47).toList.map (fun f => (f.type, f.offset)) = [(3, 0), (3, 1)] := by kernel_rfl
  have hi : Try.prog.underlying 3 = some (.int .i64) := by kernel_rfl
  have hc : Try.prog.cellsOf 3 = 1 := by kernel_rfl
  have hC : Try.prog.cellsOf 47 = 2 := by kernel_rfl
  obtain ⟨hl, hx⟩ := trod_flds hu hf h
  rw [hC] at hl
  obtain ⟨c0, c1, rfl⟩ := len2 hl
  obtain ⟨_, _, h0⟩ := hx 3 0 (by simp)
  obtain ⟨_, _, h1⟩ := hx 3 1 (by simp)
  rw [hc] at h0 h1
  obtain ⟨a, ea, _, wa⟩ := DataW.trod_int hi h0
  obtain ⟨b, eb, _, wb⟩ := DataW.trod_int hi h1
  simp at ea eb
  subst ea eb
  exact ⟨a, b, rfl, bounds_i64 wa, bounds_i64 wb⟩
theorem trod_vt (n : Nat) (cs : List Value) (y : DataW H × List MemPlace) (h : DataW.trod enc Try.prog w base spare held n 49 cs = some y) : ∃ v : Vt, cs = t3 v.id v.p.x v.p.y ∧ (In64 v.id ∧ In64 v.p.x ∧ In64 v.p.y) := by
  have hu : Try.prog.underlying 49 = some (.struct (Try.prog.fieldsOf 49)) := by kernel_rfl
  have hf : (Try.prog.fieldsOf 49).toList.map (fun f => (f.type, f.offset)) = [(3, 0), (47, 1)] := by kernel_rfl
  have hi : Try.prog.underlying 3 = some (.int .i64) := by kernel_rfl
  have hc : Try.prog.cellsOf 3 = 1 := by kernel_rfl
  have hc2 : Try.prog.cellsOf 47 = 2 := by kernel_rfl
  have hC : Try.prog.cellsOf 49 = 3 := by kernel_rfl
  obtain ⟨hl, hx⟩ := trod_flds hu hf h
  rw [hC] at hl
  obtain ⟨c0, c1, c2, rfl⟩ := len3 hl
  obtain ⟨_, _, h0⟩ := hx 3 0 (by simp)
  obtain ⟨_, _, h1⟩ := hx 47 1 (by simp)
  rw [hc] at h0
  rw [hc2] at h1
  obtain ⟨a, ea, _, wa⟩ := DataW.trod_int hi h0
  obtain ⟨b, c, eb, wb, wc⟩ := trod_pt h1
  simp at ea eb
  obtain ⟨e1, e2⟩ := eb
  subst ea e1 e2
  exact ⟨⟨a, ⟨b, c⟩⟩, rfl, bounds_i64 wa, wb, wc⟩
theorem trod_eg (n : Nat) (cs : List Value) (y : DataW H × List MemPlace) (h : DataW.trod enc Try.prog w base spare held n 79 cs = some y) : ∃ v : Eg, cs = t3 v.id v.a v.b ∧ (In64 v.id ∧ In64 v.a ∧ In64 v.b) := by
  have hu : Try.prog.underlying 79 = some (.struct (Try.prog.fieldsOf 79)) := by kernel_rfl
  have hf : (Try.prog.fieldsOf 79).toList.map (fun f => (f.type, f.offset)) = [(3, 0), (3, 1), (3, 2)] := by kernel_rfl
  have hi : Try.prog.underlying 3 = some (.int .i64) := by kernel_rfl
  have hc : Try.prog.cellsOf 3 = 1 := by kernel_rfl
  have hC : Try.prog.cellsOf 79 = 3 := by kernel_rfl
  obtain ⟨hl, hx⟩ := trod_flds hu hf h
  rw [hC] at hl
  obtain ⟨c0, c1, c2, rfl⟩ := len3 hl
  obtain ⟨_, _, h0⟩ := hx 3 0 (by simp)
  obtain ⟨_, _, h1⟩ := hx 3 1 (by simp)
  obtain ⟨_, _, h2⟩ := hx 3 2 (by simp)
  rw [hc] at h0 h1 h2
  obtain ⟨a, ea, _, wa⟩ := DataW.trod_int hi h0
  obtain ⟨b, eb, _, wb⟩ := DataW.trod_int hi h1
  obtain ⟨c, ec, _, wc⟩ := DataW.trod_int hi h2
  simp at ea eb ec
  subst ea eb ec
  exact ⟨⟨a, b, c⟩, rfl, bounds_i64 wa, bounds_i64 wb, bounds_i64 wc⟩
theorem row_sl {A : Option Addr} {xs : List Value} (h : Row w A xs) : Sl (fun _ => False) w A xs := by
  by_cases hp : 0 < xs.length
  · obtain ⟨b, off, rfl, hc⟩ := h hp
    have h0 := hc 0 _ (List.getElem?_eq_getElem hp)
    exact ⟨b, off, fun _ => ⟨rfl, World.block_lt_of_cell? w _ h0, id⟩, hc⟩
  · have : xs = [] := by cases xs with | nil => rfl | cons => simp at hp
    subst this
    exact Sl.nil_ _ _ _
/-- What is handed over in an argument that is a plan. -/
structure PlArg (w : World) (A A2 : Option Addr) (c c2 : Nat) (vs : List Vt) (es : List Eg) : Prop where
  sv : Sl (fun _ => False) w A (vR vs)
  se : Sl (fun _ => False) w A2 (eR es)
  cv : vs.length ≤ c ∧ c ≤ maxLen
  ce : es.length ≤ c2 ∧ c2 ≤ maxLen
  wv : ∀ v ∈ vs, In64 v.id ∧ In64 v.p.x ∧ In64 v.p.y
  we : ∀ e ∈ es, In64 e.id ∧ In64 e.a ∧ In64 e.b
theorem open_plan {r : Reach} {b0 : Nat} {v : Value} {d : DataW H} {p : List MemPlace} (hv : Value.okWide Try.prog w r b0 25 v) (h : DataW.Trod enc Try.prog w base spare held 25 v d p) :
    ∃ A A2 c c2 vs es, v = .agg #[.slice A (vs : List Vt).length c, .slice A2 (es : List Eg).length c2] ∧ PlArg w A A2 c c2 vs es := by
  have hu : Try.prog.underlying 25 = some (.struct (Try.prog.fieldsOf 25)) := by kernel_rfl
  have hf : (Try.prog.fieldsOf 25).toList.map (fun f => (f.type, f.offset)) = [(22, 0), (23, 1)] := by kernel_rfl
  have hC : Try.prog.cellsOf 25 = 2 := by kernel_rfl
  have hc1 : Try.prog.cellsOf 22 = 1 := by kernel_rfl
  have hc2 : Try.prog.cellsOf 23 = 1 := by kernel_rfl
  have hs1 : Try.prog.underlying 22 = some (.slice 49) := by kernel_rfl
  have hs2 : Try.prog.underlying 23 = some (.slice 79) := by kernel_rfl
  simp only [Value.okWide, hu] at hv
  obtain ⟨cs, rfl, hsz, _⟩ := hv
  obtain ⟨fuel, hx⟩ := h
  obtain ⟨hl, hx⟩ := trod_flds hu hf hx
  rw [hC] at hsz
  obtain ⟨l⟩ := cs
  simp only [List.size_toArray] at hsz
  obtain ⟨e0, e1, rfl⟩ := len2 hsz
  obtain ⟨_, _, h0⟩ := hx 22 0 (by simp)
  obtain ⟨_, _, h1⟩ := hx 23 1 (by simp)
  rw [hc1] at h0
  rw [hc2] at h1
  obtain ⟨A, c, vs, k1, k2, k3, k4, k5⟩ := trod_rows hs1 (by kernel_rfl) (fun _ => rfl) trod_vt h0
  obtain ⟨A2, c2, es, l1, l2, l3, l4, l5⟩ := trod_rows hs2 (by kernel_rfl) (fun _ => rfl) trod_eg h1
  simp [Value.cells] at k1 l1
  subst k1 l1
  exact ⟨A, A2, c, c2, vs, es, rfl, row_sl k5, row_sl l5, ⟨k2, k3⟩, ⟨l2, l3⟩, k4, l4⟩
theorem open_pt {r : Reach} {b0 : Nat} {v : Value} {d : DataW H} {p : List MemPlace} (hv : Value.okWide Try.prog w r b0 47 v) (h : DataW.Trod enc Try.prog w base spare held 47 v d p) :
    ∃ a b, v = pV a b ∧ In64 a ∧ In64 b := by
  have hu : Try.prog.underlying 47 = some (.struct (Try.prog.fieldsOf 47)) := by kernel_rfl
  simp only [Value.okWide, hu] at hv
  obtain ⟨cs, rfl, hsz, _⟩ := hv
  obtain ⟨fuel, hx⟩ := h
  obtain ⟨a, b, e, wa, wb⟩ := trod_pt hx
  obtain ⟨l⟩ := cs
  simp [Value.cells] at e
  subst e
  exact ⟨a, b, rfl, wa, wb⟩
end
end Go.Proofs.Ytlhmjhildlnokaa

/-
  Resources: a slice grows by what stands in another slice of the call's own. Nothing of the program stands here.
-/
namespace Go.Proofs.Ytlhmjhildlnokaa
set_option linter.unusedVariables false
open Go.RowKit
variable {P : Program} {B : Nat} {w0 w w' : World} {l l' : List Res} {o : Oper} {a : Act} {Q : Exit → Act → World → Prop}
/-- A slice of the call's own, as it is handed to a function that only reads. -/
theorem Own.slGrow {e size n c : Nat} {A : Option Addr} {xs : List Value} (H : Own B w0 w l) (hm : Res.grow e size (.slice A n c) n xs ∈ l) : Sl (fun _ => False) w A xs := by
  obtain ⟨A', cap, h, _, _, hs⟩ := H.giveGrow hm (F := fun _ => False) (fun _ h => h.elim)
  injection h with h1 h2 h3
  rw [h1]; exact hs
theorem o_appendS {K : Act → World → Prop} {s x' : Operand} {t e : TypeId} {z : Value} {size bytes : Nat} {v : Value} {n m c : Nat} {A : Option Addr} {xs news : List Value} {l' : Value → List Res} (hinfo : (P.info? e).map (fun i => (i.zero, i.size, i.bytes)) = some (some z, size, bytes))
    (ho : o.op = .call { callee := .builtin .append, args := #[s, x'], argTypes := #[t, t] }) (hs : a.eval s = v) (hx : a.eval x' = .slice A m c) (H : Own B w0 w l)
    (hSl : Sl (fun _ => False) w A news) (hl : news.length = m * size)
    (hrep : ∀ v', Rep (.grow e size v n xs) (.grow e size v' (n + m) (xs ++ news)) l (l' v')) (ht : P.underlying t = some (.slice e)) (hzs : z.cells.size = size) (hsz : 0 < size) (h1 : news.all (·.oneCell') = true)
    (h63 : n + m ≤ maxLen) (hbytes : (n + m) * bytes ≤ 140737488355328)
    (hk : ∀ v' w', Own B w0 w' (l' v') → (v' = .slice none 0 0 ↔ v = .slice none 0 0 ∧ m = 0) → K (a.put o.dst v') w') : o.wp P a w K Q := by
  cases hi : P.info? e with
  | none => simp [hi] at hinfo
  | some i =>
    simp only [hi, Option.map_some, Option.some.injEq, Prod.mk.injEq] at hinfo
    obtain ⟨hz, rfl, rfl⟩ := hinfo
    have hg := H.holds _ (hrep v).mem
    have hgl := H.lt _ (hrep v).mem
    obtain ⟨bb, off, hr1, hr2⟩ := hSl
    have hr : (0 < news.length → A = some ⟨bb, off, none⟩) ∧ ∀ j v, news[j]? = some v → w.cell? ⟨bb, off + j, none⟩ = some v := ⟨fun hp => (hr1 hp).1, hr2⟩
    have h1' : ∀ u ∈ news, u.oneCell' = true := fun u hu => List.all_eq_true.1 h1 u hu
    have key : ∃ v' w', (Builtin.append_ #[t, t] o.type #[v, .slice A m c]).run P w = .ok v' w' ∧ w'.ownsRow 0 e i.size v' (n + m) (xs ++ news) ∧ (∀ k, k < w.heap.size → v.ownBlock ≠ some k → w'.heap[k]? = w.heap[k]?) ∧ Below B w w' ∧
        (v' = .slice none 0 0 ↔ v = .slice none 0 0 ∧ m = 0) ∧ ∀ k, v'.ownBlock = some k → v.ownBlock = some k ∨ w.heap.size ≤ k := by
      have hold : ∀ k, v.ownBlock = some k → k < w.heap.size ∧ B ≤ k := fun k hk => ⟨(hgl k hk).1, (hgl k hk).2 rfl⟩
      cases A with
      | none =>
        have h0 : m = 0 := by
          by_cases hp : 0 < news.length
          · have := hr.1 hp; cases this
          · have : m * i.size = 0 := by omega
            rcases Nat.mul_eq_zero.1 this with h | h
            · exact h
            · omega
        subst h0
        have hn : news = [] := List.eq_nil_of_length_eq_zero (by omega)
        subst hn
        refine ⟨v, w, run_append_none ht hi hg c, by rw [Nat.add_zero, List.append_nil]; exact hg, fun _ _ _ => rfl, Below.refl _ _, by simp, fun k hk => .inl hk⟩
      | some ad =>
        have hnews : ∀ j u, news[j]? = some u → w.cell? (ad.add j) = some u := fun j u hu => by
          have hp : 0 < news.length := Nat.lt_of_le_of_lt (Nat.zero_le _) (List.getElem?_eq_some_iff.1 hu).1
          have := hr.1 hp
          injection this with this
          rw [this, Addr.add_mid]
          exact hr.2 j u hu
        obtain ⟨v', w', hrun, hown, hgrow, hnil⟩ := run_append_own (P := P) w 0 t o.type e i z _ _ ht hi hz rfl rfl hzs hsz v n xs hg ad m c news hl hnews h1' h63 hbytes (Nat.zero_le _)
        have hplace := append_place ht hi hz hg hl hnews h1' h63 hbytes hrun
        exact ⟨v', w', hrun, hown, fun k hk hne => hgrow.block k hk (fun e => hne e.symm), (.mk6 hgrow.os hgrow.tape hgrow.output hgrow.size (fun k hk' => hgrow.block k (Nat.lt_of_lt_of_le hk' H.base) (fun e => by have := (hold k e.symm).2; omega)) (append_drawn ht hi hz hg hl hnews h1' h63 hbytes hrun)), hnil, hplace⟩
    obtain ⟨v', w', hrun, hown, hblk, hbel, hnil, hplace⟩ := key
    unfold Oper.wp execOp
    simp only [ho, resolve, invoke, builtin, Sem.run_bind, Sem.run_pure, Result.andThen_ok, List.map_toArray, List.map_cons, List.map_nil, hs, hx, hrun]
    refine hk v' w' ?_ hnil
    exact H.change (hrep v') rfl rfl hbel (fun k hk' hne => hblk k hk' hne) hown (fun k hk' => (hown.lt k hk').2) hplace
end Go.Proofs.Ytlhmjhildlnokaa

/-
  The walk of TrapTells.
-/
namespace Go.Proofs.Ytlhmjhildlnokaa
set_option linter.unusedVariables false
set_option linter.unusedSimpArgs false
open Go.RowKit Go.Sort Go.Shelf

section
variable {Pg : Program} {o : Oper} {a : Act} {w w0 : World} {B : Nat} {l : List Res} {Q : Exit → Act → World → Prop} {ty : TypeId} {x y : Operand} {b : Nat} {t0 t1 t2 t3 t4 t5 t6 t7 : Value}
theorem q_loadYl {lf : List Res} {K : Act → Prop} (ho : o.op = .load ty x) (hx : a.eval x = .pointer (some ⟨b, 4, none⟩)) (hm : Res.cells b [t0, t1, t2, t3, t4, t5, t6, t7] ∈ lf)
    (ha : ∀ w, (isAgg ty).run Pg w = .ok true w) (hs : ∀ w, (sizeOf ty).run Pg w = .ok 2 w) (hk : K (a.put o.dst (.agg #[t4, t5]))) : o.quiet Pg a (Keeps B w0 lf) K := q_loadN (r := .cells b [t0, t1, t2, t3, t4, t5, t6, t7]) (cs := [t4, t5]) ho hx ⟨rfl, rfl⟩ hm ha hs hk
theorem o_loadYl {K : Act → World → Prop} (ho : o.op = .load ty x) (hx : a.eval x = .pointer (some ⟨b, 4, none⟩)) (H : Own B w0 w l) (hm : Res.cells b [t0, t1, t2, t3, t4, t5, t6, t7] ∈ l)
    (ha : ∀ w, (isAgg ty).run Pg w = .ok true w) (hs : ∀ w, (sizeOf ty).run Pg w = .ok 2 w) (hk : K (a.put o.dst (.agg #[t4, t5])) w) : o.wp Pg a w K Q := o_loadN (r := .cells b [t0, t1, t2, t3, t4, t5, t6, t7]) (cs := [t4, t5]) ho hx H ⟨rfl, rfl⟩ hm ha hs hk
theorem q_loadYr {lf : List Res} {K : Act → Prop} (ho : o.op = .load ty x) (hx : a.eval x = .pointer (some ⟨b, 6, none⟩)) (hm : Res.cells b [t0, t1, t2, t3, t4, t5, t6, t7] ∈ lf)
    (ha : ∀ w, (isAgg ty).run Pg w = .ok true w) (hs : ∀ w, (sizeOf ty).run Pg w = .ok 2 w) (hk : K (a.put o.dst (.agg #[t6, t7]))) : o.quiet Pg a (Keeps B w0 lf) K := q_loadN (r := .cells b [t0, t1, t2, t3, t4, t5, t6, t7]) (cs := [t6, t7]) ho hx ⟨rfl, rfl⟩ hm ha hs hk
theorem o_loadYr {K : Act → World → Prop} (ho : o.op = .load ty x) (hx : a.eval x = .pointer (some ⟨b, 6, none⟩)) (H : Own B w0 w l) (hm : Res.cells b [t0, t1, t2, t3, t4, t5, t6, t7] ∈ l)
    (ha : ∀ w, (isAgg ty).run Pg w = .ok true w) (hs : ∀ w, (sizeOf ty).run Pg w = .ok 2 w) (hk : K (a.put o.dst (.agg #[t6, t7])) w) : o.wp Pg a w K Q := o_loadN (r := .cells b [t0, t1, t2, t3, t4, t5, t6, t7]) (cs := [t6, t7]) ho hx H ⟨rfl, rfl⟩ hm ha hs hk
end
theorem t_grow {L : List Tz} {j n b c : Nat} {tp bt lx ly rx ry : Int} {hl hr : Bool} (h : L[j]? = some ⟨tp, bt, hl, hr, ⟨lx, ly⟩, ⟨rx, ry⟩⟩) : (Res.grow 73 8 (.slice (some ⟨b, 0, none⟩) n c) n (tR L)).at b (j * 8) [.int .i64 tp, .int .i64 bt, .bool hl, .bool hr, .int .i64 lx, .int .i64 ly, .int .i64 rx, .int .i64 ry] := at_grow (flatN_at (f := tz8) (k := 8) (fun _ => rfl) L j _ h)
/-- On which side of a line of the index the point is. -/
theorem sideI {vs : List Vt} {es : List Eg} {A A2 : Option Addr} {n m c c2 : Nat} (HR : RightP vs es) (hn : n = vs.length) (hm : m = es.length) (hl : n ≤ 1000000) (hl2 : m ≤ 1000000) {px py : Int} (ip : InP ⟨px, py⟩) (id : Int) (he : (es.find? fun e => e.id == id).isSome = true) (z : Int) (hz : sideV vs es id ⟨px, py⟩ = z) (F : Nat → Prop) (w : World) (hs : Sl F w A (vR vs)) (hs2 : Sl F w A2 (eR es)) :
    Calls Try.prog 43 #[.agg #[.slice A n c, .slice A2 m c2], .int .i64 id, pV px py] w fun e w' => e = .returned (.int .i64 z) ∧ Below w.heap.size w w' := by
  obtain ⟨k, x, y, h1, h2, h3⟩ := find_idx2 he
  have hx := (HR.each _ (List.mem_of_getElem? h2)).2.1.2
  have hi := seg_in HR (List.mem_of_getElem? h2)
  have e : sideV vs es id ⟨px, py⟩ = turnZ (segZ vs x y).a (segZ vs x y).b ⟨px, py⟩ := by unfold sideV segI; rw [h3]
  rw [← hz, e]
  exact side21_any vs es A A2 n m c c2 F id x y px py k w hn hm hs hs2 hl hl2 h1 h2 hx.1 hx.2 hi.1 hi.2 ip
theorem skip_split (hl v1 hr v2 vb vz vt vw : Bool) : (hl = true ∧ v1 = false) ∨ ((hl = false ∨ (hl = true ∧ v1 = true)) ∧ ((hr = true ∧ v2 = false) ∨ ((hr = false ∨ (hr = true ∧ v2 = true)) ∧ ((vb = true ∧ vz = true) ∨ ((vb = false ∨ (vb = true ∧ vz = false)) ∧ (vt = false ∨ (vt = true ∧ vw = false) ∨ (vt = true ∧ vw = true))))))) := by
  cases hl <;> cases v1 <;> cases hr <;> cases v2 <;> cases vb <;> cases vz <;> cases vt <;> cases vw <;> simp
theorem count_take {α : Type} {f : α → Bool} {l : List α} {j : Nat} {a : α} (h : l[j]? = some a) : (l.take (j + 1)).countP f = (l.take j).countP f + (if f a then 1 else 0) := by
  rw [List.take_add_one, h, List.countP_append]; simp [List.countP_cons]
theorem Own.giveRd0 {B : Nat} {w0 w : World} {l : List Res} {A : Option Addr} {b off : Nat} {xs : List Value} (H : Own B w0 w l) (hm : Res.rd A b off xs ∈ l) : Sl (fun _ => False) w A xs := (H.giveRd (F := fun _ => False) hm (fun _ h => h.elim)).none_of

set_option maxRecDepth 200000 in
set_option maxHeartbeats 64000000 in
theorem law_TrapTells (A A2 : Option Addr) (c c2 : Nat) (vs : List Vt) (es : List Eg) (A3 : Option Addr) (c3 : Nat) (tu : List Int) (px py : Int) (w : World) (hp : PlArg w A A2 c c2 vs es) (hs3 : Sl (fun _ => False) w A3 (tu.map (Value.int .u8))) (hw3 : ∀ n ∈ tu, (Lit.int .u8 n).wf = true) :
    Calls Try.prog 9 #[.agg #[.slice A vs.length c, .slice A2 es.length c2], .slice A3 tu.length c3, pV px py] w fun e w' => e = .returned (.bool true) ∧ Below w.heap.size w w' := by
  change Sl _ w A3 (uR tu) at hs3
  obtain ⟨hs, hs2, hcv, hce, _, _⟩ := hp
  obtain ⟨F0, hF0⟩ : ∃ F0 : Nat → Prop, F0 = fun _ => False := ⟨_, rfl⟩
  have hFF : ∀ k, F0 k → k < w.heap.size := fun k h => by rw [hF0] at h; exact h.elim
  rw [← hF0] at hs hs2 hs3
  clear hF0
  obtain ⟨b0, o0, H1, f0⟩ := (Own.start w).addSl (hs.ro (by rfl))
  obtain ⟨b9, o9, H2, f9⟩ := H1.addSl (hs2.ro (by rfl))
  obtain ⟨b8, o8, H, f8⟩ := H2.addSl (hs3.ro (by rfl))
  clear hs hs2 hs3 H1 H2
  have hfw := few21_any A A2 vs.length es.length c c2
  obtain ⟨v0, hv0⟩ : ∃ v, (decide (vs.length ≤ 40) && decide (es.length ≤ 40)) = v := ⟨_, rfl⟩
  rw [hv0] at hfw
  cases v0
  · clear hv0
    go_enter Try.func9, Try.ntmps9
    have tk0 : True := trivial
    go_wp2_with (first
      | (go_at_call 36; (with_reducible refine (hfw _).mono ?_); rintro e w3 ⟨rfl, hb⟩; replace H := H.ext hb; clear hb; dsimp only; (skip))
      | (go_at_call 35; (with_reducible refine (awake21_any _).mono ?_); rintro e w3 ⟨rfl, hb⟩; replace H := H.ext hb; clear hb; dsimp only; (skip))
      | (guard_target =~ wpList _ _ _ (_ :: _) _ _; (first | (guard_target =~ wpList _ _ _ (Oper.mk _ (.load _ _) _ _ _ _ :: _) _ _; refine BigFrame.wpList_want rfl (fun K hK => ?_); (refine o_loadNC (row := ?_) rfl rfl H ?_ ?_ ?_ (hK _ _ ?_); rotate_left 1; (repeat first | exact .head _ | apply List.Mem.tail); (focus (intro _; simp; done)); (focus (intro _; simp; done))); clear hK K) | ((guard_target =~ wpList _ _ _ (Oper.mk _ (.box _ _) _ _ _ _ :: _) _ _; refine BigFrame.wpList_want rfl (fun K hK => ?_); refine o_box rfl H rfl (fun w3 b2 he H2 => hK _ _ ?_)); clear hK K he; clear H; (try clear w2); revert w3; intro w2 H; simp [Act.eval, Value.cells, setL, List.getD] at H; (first | (clear tk0; rename Nat => b1) | (skip)))); simp only [Act.put, List.setIfInBounds_toArray, List.set_cons_succ, List.set_cons_zero]))
    exact bodyPost_ret (v := .bool true) (by simp [results, Try.results9]) rfl ⟨rfl, H.below⟩
  have hl : vs.length ≤ 40 := by simp at hv0; omega
  have hl2 : es.length ≤ 40 := by simp at hv0; omega
  clear hv0
  obtain ⟨n, hn⟩ : ∃ n, n = vs.length := ⟨_, rfl⟩
  obtain ⟨m, hm⟩ : ∃ n, n = es.length := ⟨_, rfl⟩
  obtain ⟨q, hq⟩ : ∃ n, n = tu.length := ⟨_, rfl⟩
  rw [← hn] at hl
  rw [← hm] at hl2
  have hc2 := hce.1
  have hcc := hce.2
  rw [← hm] at hc2
  rw [← hn, ← hm] at hfw
  rw [← hn, ← hm, ← hq]
  by_cases h100 : 100 < q
  · clear hn hm hq
    go_enter Try.func9, Try.ntmps9
    have tk0 : True := trivial
    go_wp2_with (first
      | (go_at_call 36; (with_reducible refine (hfw _).mono ?_); rintro e w3 ⟨rfl, hb⟩; replace H := H.ext hb; clear hb; dsimp only; (skip))
      | (go_at_call 35; (with_reducible refine (awake21_any _).mono ?_); rintro e w3 ⟨rfl, hb⟩; replace H := H.ext hb; clear hb; dsimp only; (skip))
      | (guard_target =~ wpList _ _ _ (_ :: _) _ _; (first | (guard_target =~ wpList _ _ _ (Oper.mk _ (.load _ _) _ _ _ _ :: _) _ _; refine BigFrame.wpList_want rfl (fun K hK => ?_); (refine o_loadNC (row := ?_) rfl rfl H ?_ ?_ ?_ (hK _ _ ?_); rotate_left 1; (repeat first | exact .head _ | apply List.Mem.tail); (focus (intro _; simp; done)); (focus (intro _; simp; done))); clear hK K) | ((guard_target =~ wpList _ _ _ (Oper.mk _ (.box _ _) _ _ _ _ :: _) _ _; refine BigFrame.wpList_want rfl (fun K hK => ?_); refine o_box rfl H rfl (fun w3 b2 he H2 => hK _ _ ?_)); clear hK K he; clear H; (try clear w2); revert w3; intro w2 H; simp [Act.eval, Value.cells, setL, List.getD] at H; (first | (clear tk0; rename Nat => b1) | (skip)))); simp only [Act.put, List.setIfInBounds_toArray, List.set_cons_succ, List.set_cons_zero]))
    exact bodyPost_ret (v := .bool true) (by simp [results, Try.results9]) rfl ⟨rfl, H.below⟩
  have hq100 : q ≤ 100 := by omega
  have hu : ∀ t ∈ tu, 0 ≤ t ∧ t < 256 := fun t ht => wf_u8 (hw3 t ht)
  have hord := fun F w h1 h2 => order21_any vs es tu A A2 A3 n m q c c2 c3 F w hm hq h1 h2 hu hl2 hq100
  have HN := Lib.hid hn
  have HM := Lib.hid hm
  cases hr : rightB vs es
  · have hbld := fun os B k cc w h1 h2 h3 h4 => build_noR hr os A A2 B n m k c c2 cc hn hm h1 (by omega) hl2 hc2 hcc w h2 h3 h4
    clear hr hn hm hq h100 hw3 hu
    go_enter Try.func9, Try.ntmps9
    have tk0 : True := trivial
    have tk1 : True := trivial
    go_wp2_with (first
      | (guard_target =~ Code.wp _ (Code.region 3 _ true) _ _ _; refine region_treeC0 3 (G := True) (.q 0 (.q 2 (.q 3 (.q 1 (.e 4 (.e 5 (.q 6 (.q 7 (.q 8 (.q 9 (.q 10 .nil))))))))))) (by kernel_rfl) (by intro c a d v w h; cases d <;> first | exact h | exact hQ h) (by kernel_rfl) H ⟨trivial⟩ (fun _ w3 H2 => ?_); (clear H; (try clear w2); revert w3; intro w2 H))
      | (go_at_call 36; (with_reducible refine (hfw _).mono ?_); rintro e w3 ⟨rfl, hb⟩; replace H := H.ext hb; clear hb; dsimp only; (skip))
      | (go_at_call 35; (with_reducible refine (awake21_any _).mono ?_); rintro e w3 ⟨rfl, hb⟩; replace H := H.ext hb; clear hb; dsimp only; (skip))
      | (go_at_call 39; (with_reducible refine (hord _ _ (by exact H.giveRd m3 f9) (by exact H.giveRd m2 f8)).mono ?_); rintro e w3 ⟨B9, k9, c9, os, rfl, hk9, hpm, H2⟩; replace H := H.join H2 rfl; clear H2; simp only [List.cons_append, List.nil_append] at H; have HK9 := Lib.hid hk9; have HPM := Lib.hid hpm; clear hk9 hpm; dsimp only; (refine hK _ _ ⟨_, H, by repeat first | exact .here | apply Suf.there⟩ ?_; clear hK K; (try simp only [Act.put, List.setIfInBounds_toArray, List.set_cons_succ, List.set_cons_zero])))
      | (go_at_call 37; (with_reducible refine (hbld _ _ _ _ _ HK9.out (by exact H.giveRd0 m5) (by exact H.giveRd0 m4) (by exact H.slGrow m0)).mono ?_); rintro e w3 ⟨rfl, hb⟩; replace H := H.ext hb; clear hb; dsimp only; (refine hK _ _ ⟨_, H, by repeat first | exact .here | apply Suf.there⟩ ?_; clear hK K; (try simp only [Act.put, List.setIfInBounds_toArray, List.set_cons_succ, List.set_cons_zero])))
      | (guard_target =~ wpList _ _ _ (_ :: _) _ _; (first | (guard_target =~ wpList _ _ _ (Oper.mk _ (.load _ _) _ _ _ _ :: _) _ _; refine BigFrame.wpList_want rfl (fun K hK => ?_); (refine o_loadNC (row := ?_) rfl rfl H ?_ ?_ ?_ (hK _ _ ?_); rotate_left 1; (repeat first | exact .head _ | apply List.Mem.tail); (focus (intro _; simp; done)); (focus (intro _; simp; done))); clear hK K) | ((guard_target =~ wpList _ _ _ (Oper.mk _ (.box _ _) _ _ _ _ :: _) _ _; refine BigFrame.wpList_want rfl (fun K hK => ?_); refine o_box rfl H rfl (fun w3 b2 he H2 => hK _ _ ?_)); clear hK K he; clear H; (try clear w2); revert w3; intro w2 H; simp [Act.eval, Value.cells, setL, List.getD] at H; (first | (clear tk0; rename Nat => b1) | (clear tk1; rename Nat => b2)))); simp only [Act.put, List.setIfInBounds_toArray, List.set_cons_succ, List.set_cons_zero])
      | (guard_target =~ wpTreeC _ _ _ _ _ _ _; first | (guard_target =~ wpTreeC _ _ _ (Tr.e _ Tr.nil) _ _ _; refine treeC_last (by decide +kernel) H rfl rfl (fun w3 H2 K hK => ?_); clear H; (try clear w2); (revert w3; intro w2 H); simp only [List.getElem_toArray, List.getElem_cons_succ, List.getElem_cons_zero]; (first | fail); simp only [Act.put, List.setIfInBounds_toArray, List.set_cons_succ, List.set_cons_zero]) | (guard_target =~ wpTreeC _ _ _ (Tr.q _ _) _ _ _; first | (refine treeC_quiet ⟨_, H, by repeat first | exact .here | apply Suf.there⟩ rfl rfl rfl (fun K hK => ?_); simp only [List.getElem_toArray, List.getElem_cons_succ, List.getElem_cons_zero]; first | (guard_target =~ Oper.quiet _ (Oper.mk _ (.load _ _) _ _ _ _) _ _ _; (refine q_loadNC (row := ?_) rfl rfl ?_ ?_ ?_ (hK _ ?_); rotate_left 1; (repeat first | exact .head _ | apply List.Mem.tail); (focus (intro _; simp; done)); (focus (intro _; simp; done))); clear hK K; simp only [Act.put, List.setIfInBounds_toArray, List.set_cons_succ, List.set_cons_zero]) | (go_big_quiet_op; (try refine ⟨_, fun _ _ => rfl, ?_⟩); refine hK _ ?_; clear hK K)) | (refine treeC_call (v := ?_) ⟨_, H, by repeat first | exact .here | apply Suf.there⟩ rfl rfl (fun w3 H K hK => ?_) ?_; rotate_left 1; (focus (simp only [List.getElem_toArray, List.getElem_cons_succ, List.getElem_cons_zero]; first | (go_big_op; first | exact hK _ (Ext.refl _) | (go_at_call 36; (with_reducible refine (hfw _).mono ?_); rintro e w3 ⟨rfl, hb⟩; dsimp only; first | exact hK _ hb | exact hK _ (Ext.refl _)) | (go_at_call 35; (with_reducible refine (awake21_any _).mono ?_); rintro e w3 ⟨rfl, hb⟩; dsimp only; first | exact hK _ hb | exact hK _ (Ext.refl _)) | (go_at_call 38; (with_reducible refine (plain21_any _ _ _ _ _ _ _).mono ?_); rintro e w3 ⟨rfl, hb⟩; dsimp only; first | exact hK _ hb | exact hK _ (Ext.refl _)) | (go_at_call 39; (with_reducible refine (hord _ _ (by first | fail) (by first | fail)).mono ?_); rintro e w3 ⟨B9, k9, c9, os, rfl, hk9, hpm, H2⟩; dsimp only; first | exact hK _ hb | exact hK _ (Ext.refl _)) | (go_at_call 37; (with_reducible refine (hbld _ _ _ _ _ HK9.out (by first | fail) (by first | fail) (by first | fail)).mono ?_); rintro e w3 ⟨rfl, hb⟩; dsimp only; first | exact hK _ hb | exact hK _ (Ext.refl _))))); simp only [List.getElem_toArray, List.getElem_cons_succ, List.getElem_cons_zero, Act.put, List.setIfInBounds_toArray, List.set_cons_succ, List.set_cons_zero]) | (refine treeC_skip ⟨_, H, by repeat first | exact .here | apply Suf.there⟩ rfl rfl ?_; simp only [List.getElem_toArray, List.getElem_cons_succ, List.getElem_cons_zero, Act.put, List.setIfInBounds_toArray, List.set_cons_succ, List.set_cons_zero])) | (guard_target =~ wpTreeC _ _ _ (Tr.both _ _) _ _ _; refine treeC_both ?_ ?_) | (guard_target =~ wpTreeC _ _ _ (Tr.e _ _) _ _ _; first | (refine treeC_one H rfl rfl (fun w3 H2 K hK => ?_); clear H; (try clear w2); (revert w3; intro w2 H); simp only [List.getElem_toArray, List.getElem_cons_succ, List.getElem_cons_zero]; first | ((first | fail); simp only [Act.put, List.setIfInBounds_toArray, List.set_cons_succ, List.set_cons_zero]) | (go_big_op; (skip))) | (refine treeC_one_skip (fun w3 hx => ⟨_, H.ext hx, by repeat first | exact .here | apply Suf.there⟩) rfl rfl (fun w3 hx => ?_); replace H := H.ext hx; clear hx; (try clear w2); revert w3; intro w2 H; simp only [List.getElem_toArray, List.getElem_cons_succ, List.getElem_cons_zero, Act.put, List.setIfInBounds_toArray, List.set_cons_succ, List.set_cons_zero])) | (guard_target =~ wpTreeC _ _ _ Tr.nil _ _ _; refine treeC_nil H (fun w3 H2 => ?_); clear H; (try clear w2); revert w3; intro w2 H)))
    exact bodyPost_ret (v := .bool true) (by simp [results, Try.results9]) rfl ⟨rfl, H.below⟩
  · have hbld := fun os B k cc w h0 h1 h2 h3 h4 => build_yesR hr os A A2 B n m k c c2 cc hn hm h1 (by omega) hl2 hc2 hcc w h0 h2 h3 h4
    have HR := Lib.hid (rightT_P hr)
    clear hr hn hm hq h100 hw3 hu
    go_enter Try.func9, Try.ntmps9
    have tk0 : True := trivial
    have tk1 : True := trivial
    go_upto_region 7 with (first
      | (guard_target =~ Code.wp _ (Code.region 3 _ true) _ _ _; refine region_treeC0 3 (G := True) (.q 0 (.q 2 (.q 3 (.q 1 (.e 4 (.e 5 (.q 6 (.q 7 (.q 8 (.q 9 (.q 10 .nil))))))))))) (by kernel_rfl) (by intro c a d v w h; cases d <;> first | exact h | exact hQ h) (by kernel_rfl) H ⟨trivial⟩ (fun _ w3 H2 => ?_); (clear H; (try clear w2); revert w3; intro w2 H))
      | (go_at_call 36; (with_reducible refine (hfw _).mono ?_); rintro e w3 ⟨rfl, hb⟩; replace H := H.ext hb; clear hb; dsimp only; (skip))
      | (go_at_call 35; (with_reducible refine (awake21_any _).mono ?_); rintro e w3 ⟨rfl, hb⟩; replace H := H.ext hb; clear hb; dsimp only; (skip))
      | (go_at_call 39; (with_reducible refine (hord _ _ (by exact H.giveRd m3 f9) (by exact H.giveRd m2 f8)).mono ?_); rintro e w3 ⟨B9, k9, c9, os, rfl, hk9, hpm, H2⟩; replace H := H.join H2 rfl; clear H2; simp only [List.cons_append, List.nil_append] at H; have HK9 := Lib.hid hk9; have HPM := Lib.hid hpm; clear hk9 hpm; dsimp only; (refine hK _ _ ⟨_, H, by repeat first | exact .here | apply Suf.there⟩ ?_; clear hK K; (try simp only [Act.put, List.setIfInBounds_toArray, List.set_cons_succ, List.set_cons_zero])))
      | (go_at_call 37; (with_reducible refine (hbld _ _ _ _ _ HPM.out HK9.out (by exact H.giveRd0 m5) (by exact H.giveRd0 m4) (by exact H.slGrow m0)).mono ?_); rintro e w3 ⟨X, bx, ks, ke, cn, cp, dn, dp, rfl, hI, H2⟩; replace H := H.join H2 rfl; clear H2; simp only [xL, List.cons_append, List.nil_append] at H; have HI := Lib.hid hI; clear hI; dsimp only; (refine hK _ _ ⟨_, H, by repeat first | exact .here | apply Suf.there⟩ ?_; clear hK K; (try simp only [Act.put, List.setIfInBounds_toArray, List.set_cons_succ, List.set_cons_zero])))
      | (go_at_call 40; (replace H:Own _ _ _ (Res.grow 121 _ _ _ _ :: _) := H.front2); (replace H:Own _ _ _ (Res.cells bx _ :: _) := H.front1); (with_reducible refine (tallI HI.out (perm_len HPM.out HM.out hl2) H).mono ?_); rintro e w3 ⟨A7, k7, c7, L, rfl, hk7, hA7, H2⟩; replace H := H2; clear H2; have HK7 := Lib.hid hk7; have HA7 := Lib.hid hA7; clear hk7 hA7; dsimp only; (skip))
      | (guard_target =~ wpList _ _ _ (_ :: _) _ _; (first | (guard_target =~ wpList _ _ _ (Oper.mk _ (.load _ _) _ _ _ _ :: _) _ _; refine BigFrame.wpList_want rfl (fun K hK => ?_); (refine o_loadNC (row := ?_) rfl rfl H ?_ ?_ ?_ (hK _ _ ?_); rotate_left 1; (repeat first | exact .head _ | apply List.Mem.tail); (focus (intro _; simp; done)); (focus (intro _; simp; done))); clear hK K) | ((guard_target =~ wpList _ _ _ (Oper.mk _ (.box _ _) _ _ _ _ :: _) _ _; refine BigFrame.wpList_want rfl (fun K hK => ?_); refine o_box rfl H rfl (fun w3 b2 he H2 => hK _ _ ?_)); clear hK K he; clear H; (try clear w2); revert w3; intro w2 H; simp [Act.eval, Value.cells, setL, List.getD] at H; (first | (clear tk0; rename Nat => b1) | (clear tk1; rename Nat => b2)))); simp only [Act.put, List.setIfInBounds_toArray, List.set_cons_succ, List.set_cons_zero])
      | (guard_target =~ wpTreeC _ _ _ _ _ _ _; first | (guard_target =~ wpTreeC _ _ _ (Tr.e _ Tr.nil) _ _ _; refine treeC_last (by decide +kernel) H rfl rfl (fun w3 H2 K hK => ?_); clear H; (try clear w2); (revert w3; intro w2 H); simp only [List.getElem_toArray, List.getElem_cons_succ, List.getElem_cons_zero]; (first | fail); simp only [Act.put, List.setIfInBounds_toArray, List.set_cons_succ, List.set_cons_zero]) | (guard_target =~ wpTreeC _ _ _ (Tr.q _ _) _ _ _; first | (refine treeC_quiet ⟨_, H, by repeat first | exact .here | apply Suf.there⟩ rfl rfl rfl (fun K hK => ?_); simp only [List.getElem_toArray, List.getElem_cons_succ, List.getElem_cons_zero]; first | (guard_target =~ Oper.quiet _ (Oper.mk _ (.load _ _) _ _ _ _) _ _ _; (refine q_loadNC (row := ?_) rfl rfl ?_ ?_ ?_ (hK _ ?_); rotate_left 1; (repeat first | exact .head _ | apply List.Mem.tail); (focus (intro _; simp; done)); (focus (intro _; simp; done))); clear hK K; simp only [Act.put, List.setIfInBounds_toArray, List.set_cons_succ, List.set_cons_zero]) | (go_big_quiet_op; (try refine ⟨_, fun _ _ => rfl, ?_⟩); refine hK _ ?_; clear hK K)) | (refine treeC_call (v := ?_) ⟨_, H, by repeat first | exact .here | apply Suf.there⟩ rfl rfl (fun w3 H K hK => ?_) ?_; rotate_left 1; (focus (simp only [List.getElem_toArray, List.getElem_cons_succ, List.getElem_cons_zero]; first | (go_big_op; first | exact hK _ (Ext.refl _) | (go_at_call 36; (with_reducible refine (hfw _).mono ?_); rintro e w3 ⟨rfl, hb⟩; dsimp only; first | exact hK _ hb | exact hK _ (Ext.refl _)) | (go_at_call 35; (with_reducible refine (awake21_any _).mono ?_); rintro e w3 ⟨rfl, hb⟩; dsimp only; first | exact hK _ hb | exact hK _ (Ext.refl _)) | (go_at_call 38; (with_reducible refine (plain21_any _ _ _ _ _ _ _).mono ?_); rintro e w3 ⟨rfl, hb⟩; dsimp only; first | exact hK _ hb | exact hK _ (Ext.refl _)) | (go_at_call 39; (with_reducible refine (hord _ _ (by first | fail) (by first | fail)).mono ?_); rintro e w3 ⟨B9, k9, c9, os, rfl, hk9, hpm, H2⟩; dsimp only; first | exact hK _ hb | exact hK _ (Ext.refl _)) | (go_at_call 37; (with_reducible refine (hbld _ _ _ _ _ HPM.out HK9.out (by first | fail) (by first | fail) (by first | fail)).mono ?_); rintro e w3 ⟨X, bx, ks, ke, cn, cp, dn, dp, rfl, hI, H2⟩; dsimp only; first | exact hK _ hb | exact hK _ (Ext.refl _)) | (go_at_call 40; (first | fail); (first | fail); (with_reducible refine (tallI HI.out (perm_len HPM.out HM.out hl2) H).mono ?_); rintro e w3 ⟨A7, k7, c7, L, rfl, hk7, hA7, H2⟩; dsimp only; first | exact hK _ hb | exact hK _ (Ext.refl _))))); simp only [List.getElem_toArray, List.getElem_cons_succ, List.getElem_cons_zero, Act.put, List.setIfInBounds_toArray, List.set_cons_succ, List.set_cons_zero]) | (refine treeC_skip ⟨_, H, by repeat first | exact .here | apply Suf.there⟩ rfl rfl ?_; simp only [List.getElem_toArray, List.getElem_cons_succ, List.getElem_cons_zero, Act.put, List.setIfInBounds_toArray, List.set_cons_succ, List.set_cons_zero])) | (guard_target =~ wpTreeC _ _ _ (Tr.both _ _) _ _ _; refine treeC_both ?_ ?_) | (guard_target =~ wpTreeC _ _ _ (Tr.e _ _) _ _ _; first | (refine treeC_one H rfl rfl (fun w3 H2 K hK => ?_); clear H; (try clear w2); (revert w3; intro w2 H); simp only [List.getElem_toArray, List.getElem_cons_succ, List.getElem_cons_zero]; first | ((first | fail); simp only [Act.put, List.setIfInBounds_toArray, List.set_cons_succ, List.set_cons_zero]) | (go_big_op; (skip))) | (refine treeC_one_skip (fun w3 hx => ⟨_, H.ext hx, by repeat first | exact .here | apply Suf.there⟩) rfl rfl (fun w3 hx => ?_); replace H := H.ext hx; clear hx; (try clear w2); revert w3; intro w2 H; simp only [List.getElem_toArray, List.getElem_cons_succ, List.getElem_cons_zero, Act.put, List.setIfInBounds_toArray, List.set_cons_succ, List.set_cons_zero])) | (guard_target =~ wpTreeC _ _ _ Tr.nil _ _ _; refine treeC_nil H (fun w3 H2 => ?_); clear H; (try clear w2); revert w3; intro w2 H)))
    replace H := H.front5.front5.front4.front5.front5
    have hos := perm_len HPM.out HM.out hl2
    have hk7m : k7 ≤ 3 * m + 1 := by
      have h1 := (bld_sizes HI.out hos).2.2
      have h2 := HPM.out.length_eq
      rw [List.length_map, ← HM.out] at h2
      have h3 := HA7.out.1.length_eq
      rw [live_len] at h3
      have := HK7.out
      omega
    have hgt : decide (1 + 3 * (m : Int) < (k7 : Int)) = false := by simp; omega
    have tk0 : True := trivial
    go_upto_region 10 with (first
      | (go_at_call 41; (with_reducible refine (xfind_any HR.out HI.out hos px py H).mono ?_); rintro e w3 ⟨s1, s2, f, rfl, hF, H2⟩; replace H := H2; clear H2; have HF := Lib.hid hF; clear hF; dsimp only; (skip))
      | (guard_target =~ wpList _ _ _ (_ :: _) _ _; (first | (guard_target =~ wpList _ _ _ (Oper.mk _ (.load _ _) _ _ _ _ :: _) _ _; refine BigFrame.wpList_want rfl (fun K hK => ?_); (first | (refine o_loadC (v := ?_) (row := ?_) rfl rfl H ?_ ?_ ?_ (hK _ _ ?_); rotate_left 2; (repeat first | exact .head _ | apply List.Mem.tail); (exact rfl); (focus (intro _; simp [hgt]; done))) | (refine o_loadNC (row := ?_) rfl rfl H ?_ ?_ ?_ (hK _ _ ?_); rotate_left 1; (repeat first | exact .head _ | apply List.Mem.tail); (focus (intro _; simp [hgt]; done)); (focus (intro _; simp [hgt]; done)))); clear hK K) | (guard_target =~ wpList _ _ _ (Oper.mk _ (.store _ _ _) _ _ _ _ :: _) _ _; refine BigFrame.wpList_want rfl (fun K hK => ?_); refine o_store (l' := ?_) (row := ?_) rfl rfl H rfl ?_ ?_ ?_ ?_ (fun w3 H2 => hK _ _ ?_); rotate_left 2; (exact r0); (focus (intro _; (simp [Act.eval, Value.cells, List.getD, hgt]; done))); (focus (simp [Act.eval, Value.cells, List.getD, hgt]; done)); (exact rfl); clear hK K; clear H; (try clear w2); revert w3; intro w2 H; (try simp [Act.eval, List.getD, hgt] at H); (try simp [Value.cells, setL, hgt] at H)) | ((guard_target =~ wpList _ _ _ (Oper.mk _ (.alloc _) _ _ _ _ :: _) _ _; refine BigFrame.wpList_want rfl (fun K hK => ?_); refine o_alloc (z := ?_) rfl ?_ H rfl (fun w3 b2 he H2 => hK _ _ ?_); rotate_left 1; (focus (intro _; simp; with_reducible exact rfl))); clear hK K he; clear H; (try clear w2); revert w3; intro w2 H; (try simp [Act.eval, List.getD, hgt] at H); (try simp [Value.cells, setL, hgt] at H); (clear tk0; rename Nat => b3))); simp only [Act.put, List.setIfInBounds_toArray, List.set_cons_succ, List.set_cons_zero, hgt]))
    rcases HF.out with ⟨_, rfl, rfl, rfl⟩ | ⟨_, _, rfl, rfl, rfl⟩ | ⟨hin, _, rfl, ⟨sg, hsg, _, _, rfl⟩ | ⟨i0, p0, hp1, hp2, hp3, rfl, hbe⟩⟩
    · clear HF
      go_wp2_with (go_big_skip)
      exact bodyPost_ret (v := .bool true) (by simp [results, Try.results9]) rfl ⟨rfl, H.below⟩
    · clear HF
      go_wp2_with (go_big_skip)
      exact bodyPost_ret (v := .bool true) (by simp [results, Try.results9]) rfl ⟨rfl, H.below⟩
    · have hpos : (decide (0 < s1)) = true := by simpa using (id_pos HR.out HI.out hsg).1
      clear HF hsg hin
      go_wp2_with (guard_target =~ wpList _ _ _ (_ :: _) _ _; (guard_target =~ wpList _ _ _ (Oper.mk _ (.load _ _) _ _ _ _ :: _) _ _; refine BigFrame.wpList_want rfl (fun K hK => ?_); (refine o_loadC (v := ?_) (row := ?_) rfl rfl H ?_ ?_ ?_ (hK _ _ ?_); rotate_left 2; (repeat first | exact .head _ | apply List.Mem.tail); (exact rfl); (focus (intro _; simp [hpos]; done))); clear hK K); simp only [Act.put, List.setIfInBounds_toArray, List.set_cons_succ, List.set_cons_zero, hpos])
      exact bodyPost_ret (v := .bool true) (by simp [results, Try.results9]) rfl ⟨rfl, H.below⟩
    · clear HF
      have ip := inP_b hin
      have TP := tells HR.out HI.out HA7.out ip hp1 hp2 hp3
      have TP1 := Lib.hid TP.one
      have TP2 := Lib.hid TP.bot
      rw [← hbe] at TP2
      clear TP
      obtain ⟨bot, hbot⟩ : ∃ b, b = s2 := ⟨_, rfl⟩
      obtain rfl := hbot
      have HC := Lib.hid (fun t ht => val_ids HR.out HI.out HA7.out (t := t) ht)
      have hsi := Lib.hid (fun id he z hz F w hs hs2 => sideI (A := A) (A2 := A2) (n := n) (m := m) (c := c) (c2 := c2) HR.out HN.out HM.out (by omega) (by omega) ip id he z hz F w hs hs2)
      clear hin hp1 hp2 hp3 hbe hgt hord hbld
      have hk0 : 0 < k7 := by
        have h1 := TP1.out
        rcases L with _ | ⟨a, l⟩
        · simp at h1
        · have := HK7.out; rw [this]; simp
      obtain ⟨d7, c7', he⟩ := H.growSome (.tail _ (.tail _ (.tail _ (.tail _ (.tail _ (.tail _ (.head _))))))) hk0 (by decide)
      injection he with hA hx hc9
      subst hA
      subst hc9
      clear hx
      go_wp2_with (guard_target =~ wpList _ _ _ (_ :: _) _ _; (guard_target =~ wpList _ _ _ (Oper.mk _ (.load _ _) _ _ _ _ :: _) _ _; refine BigFrame.wpList_want rfl (fun K hK => ?_); (refine o_loadC (v := ?_) (row := ?_) rfl rfl H ?_ ?_ ?_ (hK _ _ ?_); rotate_left 2; (repeat first | exact .head _ | apply List.Mem.tail); (exact rfl); (focus (intro _; simp; done))); clear hK K); simp only [Act.put, List.setIfInBounds_toArray, List.set_cons_succ, List.set_cons_zero])
      go_loopg [13, 12] k7 (fun k i o wr => k ≤ k7 ∧ i = .int .i64 ((k7 - k : Nat) : Int) ∧ o = .int .i64 (((L.take (k7 - k)).countP (fun t => !skipB vs es t ⟨px, py⟩) : Nat) : Int) ∧ Own w.heap.size w wr [.cells b3 [.int .i64 0, .int .i64 bot], .grow 73 8 (.slice (some ⟨d7, 0, none⟩) k7 c7) k7 (tR L), .cells b2 [.int .i64 px, .int .i64 py], .cells b1 [.slice A n c, .slice A2 m c2], .rd A2 b9 o9 (eR es), .rd A b0 o0 (vR vs)])
      case atStart => exact ⟨Nat.le_refl _, by simp, by simp, (H.sub (by repeat first | exact List.Sublist.refl _ | apply List.Sublist.cons_cons | apply List.Sublist.cons))⟩
      case round =>
        clear H
        obtain ⟨hk, rfl, rfl, H⟩ := hrel
        by_cases hlt : 0 < gk
        · obtain ⟨j, hj⟩ : ∃ j, k7 - gk = j := ⟨_, rfl⟩
          have hjl : j < k7 := by omega
          rw [hj]
          obtain ⟨⟨tp, bt, hl, hr, ⟨lx, ly⟩, ⟨rx, ry⟩⟩, htz⟩ : ∃ t, L[j]? = some t := ⟨_, List.getElem?_eq_getElem (by have := HK7.out; omega)⟩
          have hp := t_grow (n := k7) (b := d7) (c := c7) htz
          have hmem := List.mem_of_getElem? htz
          have hct := count_take (f := fun t => !skipB vs es t ⟨px, py⟩) htz
          obtain ⟨N0, hN0⟩ : ∃ N0, (L.take j).countP (fun t => !skipB vs es t ⟨px, py⟩) = N0 := ⟨_, rfl⟩
          have hNle : N0 ≤ 1000000 := by
            have h1 := List.countP_le_length (p := fun t => !skipB vs es t ⟨px, py⟩) (l := L.take j)
            rw [hN0, List.length_take] at h1
            omega
          rw [hN0] at hct ⊢
          have HJ := Lib.hid hj
          have HB := Lib.hid (TP2.out _ hmem)
          have hcc := HC.out _ hmem
          simp only at hcc
          obtain ⟨z1, hz1⟩ : ∃ z, sideV vs es bt ⟨px, py⟩ = z := ⟨_, rfl⟩
          obtain ⟨z2, hz2⟩ : ∃ z, sideV vs es tp ⟨px, py⟩ = z := ⟨_, rfl⟩
          have hs1 := fun h F w => hsi.out bt (hcc.1 h) z1 hz1 F w
          have hs2 := fun h F w => hsi.out tp (hcc.2 h) z2 hz2 F w
          have hl1 := fun w => refLess_any lx ly px py w
          have hl3 := fun w => refLess_any px py rx ry w
          obtain ⟨v1, hv1⟩ : ∃ v, lessB ⟨lx, ly⟩ ⟨px, py⟩ = v := ⟨_, rfl⟩
          obtain ⟨v2, hv2⟩ : ∃ v, lessB ⟨px, py⟩ ⟨rx, ry⟩ = v := ⟨_, rfl⟩
          obtain ⟨vb, hvb⟩ : ∃ v, decide (0 < bt) = v := ⟨_, rfl⟩
          obtain ⟨vt, hvt⟩ : ∃ v, decide (0 < tp) = v := ⟨_, rfl⟩
          obtain ⟨vz, hvz⟩ : ∃ v, decide (z1 ≤ 0) = v := ⟨_, rfl⟩
          obtain ⟨vw, hvw⟩ : ∃ v, decide (0 ≤ z2) = v := ⟨_, rfl⟩
          rw [hv1] at hl1
          rw [hv2] at hl3
          have hsk : skipB vs es ⟨tp, bt, hl, hr, ⟨lx, ly⟩, ⟨rx, ry⟩⟩ ⟨px, py⟩ = ((hl && !v1) || ((hr && !v2) || ((vb && vz) || (vt && vw)))) := by
            rw [← hv1, ← hv2, ← hvb, ← hvt, ← hvz, ← hvw, ← hz1, ← hz2]; rfl
          have HSK := Lib.hid hsk
          have HCT := Lib.hid hct
          obtain ⟨g1, hg1⟩ : ∃ g, g = gk := ⟨_, rfl⟩
          have HG1 := Lib.hid hg1
          clear htz hmem hct hN0 hj hcc hz1 hz2 hv1 hv2 hsk hg1
          have tk0 : True := trivial
          go_upto_region 17 with (guard_target =~ wpList _ _ _ (_ :: _) _ _; (first | (guard_target =~ wpList _ _ _ (Oper.mk _ (.load _ _) _ _ _ _ :: _) _ _; refine BigFrame.wpList_want rfl (fun K hK => ?_); (refine o_loadN (cs := ?_) (r := ?_) rfl rfl H ?_ ?_ ?_ ?_ (hK _ _ ?_); rotate_left 2; (with_reducible assumption); (repeat first | exact .head _ | apply List.Mem.tail); (focus (intro _; simp; done)); (focus (intro _; simp; done))); clear hK K) | (guard_target =~ wpList _ _ _ (Oper.mk _ (.store _ _ _) _ _ _ _ :: _) _ _; refine BigFrame.wpList_want rfl (fun K hK => ?_); refine o_store (l' := ?_) (row := ?_) rfl rfl H rfl ?_ ?_ ?_ ?_ (fun w3 H2 => hK _ _ ?_); rotate_left 2; (exact r0); (focus (intro _; simp [Act.eval, Value.cells]; done)); (focus (simp [Act.eval, Value.cells]; done)); (exact rfl); clear hK K; clear H; (try clear w2); revert w3; intro w2 H; simp [Act.eval, Value.cells, setL, List.getD] at H) | ((guard_target =~ wpList _ _ _ (Oper.mk _ (.alloc _) _ _ _ _ :: _) _ _; refine BigFrame.wpList_want rfl (fun K hK => ?_); refine o_alloc (z := ?_) rfl ?_ H rfl (fun w3 b2 he H2 => hK _ _ ?_); rotate_left 1; (focus (intro _; simp; with_reducible exact rfl))); clear hK K he; clear H; (try clear w2); revert w3; intro w2 H; simp [Act.eval, Value.cells, setL, List.getD] at H; (clear tk0; rename Nat => b4))); simp only [Act.put, List.setIfInBounds_toArray, List.set_cons_succ, List.set_cons_zero])
          go_cut [117] (fun u wx => u = .bool ((hl && !v1) || ((hr && !v2) || ((vb && vz) || (vt && vw)))) ∧ Own w.heap.size w wx [.cells b4 [.int .i64 tp, .int .i64 bt, .bool hl, .bool hr, .int .i64 lx, .int .i64 ly, .int .i64 rx, .int .i64 ry], .cells b3 [.int .i64 0, .int .i64 bot], .grow 73 8 (.slice (some ⟨d7, 0, none⟩) k7 c7) k7 (tR L), .cells b2 [.int .i64 px, .int .i64 py], .cells b1 [.slice A n c, .slice A2 m c2], .rd A2 b9 o9 (eR es), .rd A b0 o0 (vR vs)])
          case first =>
            rcases skip_split hl v1 hr v2 vb vz vt vw with ⟨rfl, rfl⟩ | ⟨rfl | ⟨rfl, rfl⟩, ⟨rfl, rfl⟩ | ⟨rfl | ⟨rfl, rfl⟩, ⟨rfl, rfl⟩ | ⟨rfl | ⟨rfl, rfl⟩, rfl | ⟨rfl, rfl⟩ | ⟨rfl, rfl⟩⟩⟩⟩
            all_goals
              go_wp2_with (first
                | go_big_skip
                | (go_at_call 42; (with_reducible refine (hl1 _).mono ?_); rintro e w3 ⟨rfl, hb⟩; replace H := H.ext hb; clear hb; dsimp only; (skip))
                | (go_at_call 42; (with_reducible refine (hl3 _).mono ?_); rintro e w3 ⟨rfl, hb⟩; replace H := H.ext hb; clear hb; dsimp only; (skip))
                | (go_at_call 43; (with_reducible refine (hs1 (of_decide_eq_true hvb) _ _ (by exact H.giveRd m6 f0) (by exact H.giveRd m5 f9)).mono ?_); rintro e w3 ⟨rfl, hb⟩; replace H := H.ext hb; clear hb; dsimp only; (skip))
                | (go_at_call 43; (with_reducible refine (hs2 (of_decide_eq_true hvt) _ _ (by exact H.giveRd m6 f0) (by exact H.giveRd m5 f9)).mono ?_); rintro e w3 ⟨rfl, hb⟩; replace H := H.ext hb; clear hb; dsimp only; (skip))
                | (guard_target =~ wpList _ _ _ (_ :: _) _ _; (guard_target =~ wpList _ _ _ (Oper.mk _ (.load _ _) _ _ _ _ :: _) _ _; refine BigFrame.wpList_want rfl (fun K hK => ?_); (first | (refine o_loadYl (t0 := ?_) (t1 := ?_) (t2 := ?_) (t3 := ?_) (t4 := ?_) (t5 := ?_) (t6 := ?_) (t7 := ?_) rfl rfl H ?_ ?_ ?_ (hK _ _ ?_); rotate_left 8; (repeat first | exact .head _ | apply List.Mem.tail); (focus (intro _; simp [hvb, hvt, hvz, hvw]; done)); (focus (intro _; simp [hvb, hvt, hvz, hvw]; done))) | (refine o_loadYr (t0 := ?_) (t1 := ?_) (t2 := ?_) (t3 := ?_) (t4 := ?_) (t5 := ?_) (t6 := ?_) (t7 := ?_) rfl rfl H ?_ ?_ ?_ (hK _ _ ?_); rotate_left 8; (repeat first | exact .head _ | apply List.Mem.tail); (focus (intro _; simp [hvb, hvt, hvz, hvw]; done)); (focus (intro _; simp [hvb, hvt, hvz, hvw]; done))) | (refine o_loadC (v := ?_) (row := ?_) rfl rfl H ?_ ?_ ?_ (hK _ _ ?_); rotate_left 2; (repeat first | exact .head _ | apply List.Mem.tail); (exact rfl); (focus (intro _; simp [hvb, hvt, hvz, hvw]; done))) | (refine o_loadNC (row := ?_) rfl rfl H ?_ ?_ ?_ (hK _ _ ?_); rotate_left 1; (repeat first | exact .head _ | apply List.Mem.tail); (focus (intro _; simp [hvb, hvt, hvz, hvw]; done)); (focus (intro _; simp [hvb, hvt, hvz, hvw]; done)))); clear hK K); simp only [Act.put, List.setIfInBounds_toArray, List.set_cons_succ, List.set_cons_zero, hvb, hvt, hvz, hvw]))
              go_meet
              case rel => exact ⟨by simp, (H.sub (by repeat first | exact List.Sublist.refl _ | apply List.Sublist.cons_cons | apply List.Sublist.cons))⟩
          case rest =>
            clear H
            obtain ⟨rfl, H⟩ := hcut
            obtain ⟨u, hu⟩ : ∃ u, ((hl && !v1) || ((hr && !v2) || ((vb && vz) || (vt && vw)))) = u := ⟨_, rfl⟩
            rw [hu]
            have HU := Lib.hid hu
            clear hu hs1 hs2 hl1 hl3 hvb hvt hvz hvw
            cases u
            · have hbb : bt = bot := HB.out (HSK.out.trans HU.out)
              subst hbb
              go_wp2_with (guard_target =~ wpList _ _ _ (_ :: _) _ _; (guard_target =~ wpList _ _ _ (Oper.mk _ (.load _ _) _ _ _ _ :: _) _ _; refine BigFrame.wpList_want rfl (fun K hK => ?_); (refine o_loadC (v := ?_) (row := ?_) rfl rfl H ?_ ?_ ?_ (hK _ _ ?_); rotate_left 2; (repeat first | exact .head _ | apply List.Mem.tail); (exact rfl); (focus (intro _; simp; done))); clear hK K); simp only [Act.put, List.setIfInBounds_toArray, List.set_cons_succ, List.set_cons_zero])
              go_roundg (g1 - 1)
              case rel =>
                have e := show k7 - (g1 - 1) = j + 1 by have := HJ.out; have := HG1.out; omega
                exact ⟨by have := HG1.out; omega, by rw [e]; simp, by rw [e, HCT.out, HSK.out, HU.out]; simp, (H.sub (by repeat first | exact List.Sublist.refl _ | apply List.Sublist.cons_cons | apply List.Sublist.cons))⟩
              case measure => have := HG1.out; omega
            · go_wp2_with (first | fail)
              go_roundg (g1 - 1)
              case rel =>
                have e := show k7 - (g1 - 1) = j + 1 by have := HJ.out; have := HG1.out; omega
                exact ⟨by have := HG1.out; omega, by rw [e]; simp, by rw [e, HCT.out, HSK.out, HU.out]; simp, (H.sub (by repeat first | exact List.Sublist.refl _ | apply List.Sublist.cons_cons | apply List.Sublist.cons))⟩
              case measure => have := HG1.out; omega
        · obtain rfl : gk = 0 := by omega
          have hone : (L.take (k7 - 0)).countP (fun t => !skipB vs es t ⟨px, py⟩) = 1 := by
            rw [Nat.sub_zero, HK7.out, List.take_length]; exact TP1.out
          rw [hone]
          clear hone
          go_wp2_with (first | fail)
          exact bodyPost_ret (v := .bool true) (by simp [results, Try.results9]) rfl ⟨rfl, H.below⟩
end Go.Proofs.Ytlhmjhildlnokaa

/-
  Two closed facts of a seat's program.
-/
namespace Go.Proofs.Ytlhmjhildlnokaa
theorem Try.own0 : ownKnob Try.prog.godebug = none := by kernel_rfl
theorem Try.laidOut : laidOutB Try.prog = true := by kernel_rfl
end Go.Proofs.Ytlhmjhildlnokaa

/-
  An argument that is a slice of whole numbers.
-/
namespace Go.Proofs.Ytlhmjhildlnokaa
set_option linter.unusedVariables false
set_option linter.constructorNameAsVariable false
open Go.RowKit Go.WideShapes Go.ChangeShapes
section
variable {H : Type} {enc : TypeId × Value → H} {P : Program} {w : World} {base : Nat} {spare : Nat → Bool} {held : Bool}
/-- A slice of integers of one kind: its cells, each within that kind. -/
theorem open_nums {r : Reach} {b0 : Nat} {t e : TypeId} {k : IntKind} {v : Value} {d : DataW H} {p : List MemPlace} (ht : P.underlying t = some (.slice e)) (he : P.underlying e = some (.int k)) (hc : P.cellsOf e = 1)
    (hv : Value.okWide P w r b0 t v) (h : DataW.Trod enc P w base spare held t v d p) :
    ∃ (A : Option Addr) (cap : Nat) (L : List Int), v = .slice A L.length cap ∧ L.length ≤ cap ∧ cap ≤ maxLen ∧ (∀ n ∈ L, (Lit.int k n).wf = true) ∧ Sl (fun _ => False) w A (L.map (Value.int k)) := by
  obtain ⟨a0, len0, cap0, rfl⟩ := okWide_slice ht hv
  obtain ⟨fuel, hf⟩ := h
  rcases DataW.trod_slice ht hf with ⟨hcs, _⟩ | ⟨a, len, cap, elems, rest, n', _, hcs, _, hb, hl, hm, hlen, hel, _⟩
  · simp [Value.cells] at hcs
    obtain ⟨rfl, rfl, rfl⟩ := hcs
    exact ⟨none, 0, [], rfl, Nat.le_refl _, Nat.zero_le _, by simp, row_sl (Row.nil_ _ _)⟩
  · simp [Value.cells] at hcs
    obtain ⟨rfl, rfl, rfl⟩ := hcs
    have each : ∀ i, i < len0 → ∃ n : Int, (Lit.int k n).wf = true ∧ w.cell? (a.add i) = some (.int k n) := by
      intro i hi
      have h1 := hel i hi
      have h2 : elems[i]? = some elems[i] := List.getElem?_eq_getElem (by omega)
      rw [h2, Option.bind_eq_some_iff] at h1
      obtain ⟨cs', h3, h4⟩ := h1
      obtain ⟨n, rfl, _, hw⟩ := DataW.trod_int he h4
      refine ⟨n, hw, ?_⟩
      have h5 := World.cells?_some h3
      rw [hc] at h5
      have := h5.2.2 0 (by omega)
      simp only [Nat.mul_one] at this
      rw [show (a.add i).add 0 = a.add i by rw [add_add, Nat.add_zero]] at this
      simpa using this
    have choose : ∀ q, q ≤ len0 → ∃ L : List Int, L.length = q ∧ (∀ n ∈ L, (Lit.int k n).wf = true) ∧ ∀ i n, L[i]? = some n → w.cell? (a.add i) = some (.int k n) := by
      intro q
      induction q with
      | zero => exact fun _ => ⟨[], rfl, by simp, by simp⟩
      | succ q ih =>
        intro hk
        obtain ⟨L, h1, h2, h3⟩ := ih (by omega)
        obtain ⟨v, h4, h5⟩ := each q (by omega)
        refine ⟨L ++ [v], by simp [h1], fun u hu => ?_, fun i u hi => ?_⟩
        · rcases List.mem_append.1 hu with hu | hu
          · exact h2 u hu
          · obtain rfl := List.mem_singleton.1 hu; exact h4
        · rw [List.getElem?_append] at hi
          split at hi
          · exact h3 i u hi
          · rename_i hik
            have : i - L.length = 0 := by
              by_cases h0 : i - L.length = 0
              · exact h0
              · rw [List.getElem?_eq_none (by simp; omega)] at hi; cases hi
            rw [this] at hi
            obtain rfl : v = u := by simpa using hi
            obtain rfl : i = q := by omega
            exact h5
    obtain ⟨L, h1, h2, h3⟩ := choose len0 (Nat.le_refl _)
    refine ⟨some a, cap0, L, by rw [h1], by omega, hm, h2, row_sl (Row.of_cells fun j v hv => ?_)⟩
    rw [List.getElem?_map] at hv
    obtain ⟨n, h4, rfl⟩ := Option.map_eq_some_iff.1 hv
    exact h3 j n h4
end
end Go.Proofs.Ytlhmjhildlnokaa

/-
  An argument that is an array of four integers. Nothing of the program stands here.
-/
namespace Go.Proofs.Ytlhmjhildlnokaa
set_option linter.unusedVariables false
open Go.RowKit Go.WideShapes Go.ChangeShapes
section
variable {H : Type} {enc : TypeId × Value → H} {P : Program} {w : World} {base : Nat} {spare : Nat → Bool} {held : Bool}
theorem open_arr4 {r : Reach} {b0 : Nat} {t e : TypeId} {q : IntKind} {v : Value} {d : DataW H} {p : List MemPlace} (hu : P.underlying t = some (.array 4 e)) (he : P.underlying e = some (.int q)) (hc : P.cellsOf e = 1) (hC : P.cellsOf t = 4)
    (hv : Value.okWide P w r b0 t v) (h : DataW.Trod enc P w base spare held t v d p) :
    ∃ a b c x : Int, v = .agg #[.int q a, .int q b, .int q c, .int q x] ∧ (Lit.int q a).wf = true ∧ (Lit.int q b).wf = true ∧ (Lit.int q c).wf = true ∧ (Lit.int q x).wf = true := by
  simp only [Value.okWide, hu] at hv
  obtain ⟨cs, rfl, hsz, _⟩ := hv
  rw [hC] at hsz
  obtain ⟨c0, c1, c2, c3, rfl⟩ : ∃ c0 c1 c2 c3, cs = #[c0, c1, c2, c3] := by
    obtain ⟨l⟩ := cs
    match l, hsz with
    | [c0, c1, c2, c3], _ => exact ⟨c0, c1, c2, c3, rfl⟩
  obtain ⟨fuel, hf⟩ := h
  cases fuel with
  | zero => simp [DataW.trod] at hf
  | succ m =>
    rw [DataW.trod_step] at hf
    unfold DataW.trodStep at hf
    simp only [hu, Value.cells] at hf
    rw [if_pos (by rw [hC]; rfl), hc] at hf
    simp only [Option.map_eq_some_iff] at hf
    obtain ⟨ys, hy, _⟩ := hf
    have hr : List.range 4 = [0, 1, 2, 3] := rfl
    rw [hr] at hy
    simp only [List.mapM_cons, bind, Option.bind_eq_some_iff] at hy
    obtain ⟨y0, h0, _, ⟨y1, h1, _, ⟨y2, h2, _, ⟨y3, h3, _⟩, _⟩, _⟩, _⟩ := hy
    obtain ⟨a, ea, _, wa⟩ := DataW.trod_int he h0
    obtain ⟨b, eb, _, wb⟩ := DataW.trod_int he h1
    obtain ⟨c, ec, _, wc⟩ := DataW.trod_int he h2
    obtain ⟨x, ex, _, wx⟩ := DataW.trod_int he h3
    simp at ea eb ec ex
    subst ea eb ec ex
    exact ⟨a, b, c, x, rfl, wa, wb, wc, wx⟩
end
end Go.Proofs.Ytlhmjhildlnokaa

/-
  The statement TrapTells, proved: for every input the law answers true, and each argument reads behind the call as it did. No condition.
-/
namespace Go.Proofs.Ytlhmjhildlnokaa
namespace trapTells
open Go.ChangeShapes Go.WideShapes Go.ChangeAt Go.RowKit
open Go.ChangeMaps (open_string)
set_option maxRecDepth 100000 in
theorem lifted (os : Os) (started : os.Started) (H : Type) (enc : TypeId × Value → H) :
    ReturnsInHanded {} Try.checked os 9 .any (Rows.trapTellsSpec.pre6 enc Try.prog Try.f9 Rows.trapTellsRow.domain false) (Rows.trapTellsSpec.post enc Try.prog Try.f9 false true false false) := by
  refine returnsInHanded_of_change (C := Try.checked) Try.own0 started (by kernel_rfl) Try.func9
    (ChangeSpec.witness6 (enc := enc) (C := Try.checked) false ⟨#[], #[.agg #[.slice none 0 0, .slice none 0 0], .slice none 0 0, .agg #[.int .i64 0, .int .i64 0]], []⟩ 8 (by kernel_rfl) (by kernel_rfl) (by kernel_rfl) (by kernel_rfl)) ?_
  intro W base args ds gs before hval0 hW _ _
  have hval : ∀ (j : Nat) t v, Try.f9.params[j]? = some t → args[j]? = some v → Value.okWide Try.prog W .any base t v := hval0
  refine law_calls Try.laidOut (by kernel_rfl) rfl rfl Try.underlying4 (fun ds h => by match ds, h with | [_, _, _], _ => rfl) hW ?_
  obtain ⟨p, q, hA0, _, _, _, _⟩ := hW
  have hA : DataW.TrodAll enc Try.prog W 0 (fun _ => true) true Try.f9.params.toList args.toList ds p := hA0
  rw [Try.params9] at hA hval
  obtain ⟨v0, vs0, d0, ds0, p0, q0, hargs, rfl, rfl, h0, r0⟩ := trodAll_cons hA
  obtain ⟨v1, vs1, d1, ds1, p1, q1, rfl, rfl, rfl, h1, r1⟩ := trodAll_cons r0
  obtain ⟨v2, vs2, d2, ds2, p2, q2, rfl, rfl, rfl, h2, r2⟩ := trodAll_cons r1
  obtain ⟨rfl, rfl, rfl⟩ := trodAll_nil r2
  obtain rfl : args = #[v0, v1, v2] := by cases args; simp_all
  obtain ⟨A0, B0, c0, e0, vs0_, es0_, rfl, pl0⟩ := open_plan (hval 0 25 v0 rfl rfl) h0
  obtain ⟨A1, c1, L1, rfl, lb1, lc1, lw1, ls1⟩ := open_nums (e := 5) (by kernel_rfl) (by kernel_rfl) (by kernel_rfl) (hval 1 60 v1 rfl rfl) h1
  obtain ⟨px2, py2, rfl, _, _⟩ := open_pt (hval 2 47 v2 rfl rfl) h2
  exact law_TrapTells A0 B0 c0 e0 vs0_ es0_ A1 c1 L1 px2 py2 W pl0 ls1 lw1
set_option maxRecDepth 100000 in
set_option maxHeartbeats 4000000 in
theorem closed : joinedFacts Try.pinned.checked.prog 9 Try.f9 Rows.trapTellsSpec Rows.trapTellsRow = true := by
  have key : ∀ P : Program, P = Try.pinned.checked.prog → joinedFacts P 9 Try.f9 Rows.trapTellsSpec Rows.trapTellsRow = true := by
    intro P hP
    unfold joinedFacts
    simp only [Bool.and_eq_true]
    repeat' apply And.intro
    all_goals first
      | (guard_target =~ Program.mayEnter _ = true; rw [hP]; exact may_enter)
      | (guard_target =~ (_ == Program.liftsFinal _) = true; rw [hP, lifts_final]; rfl)
      | (guard_target =~ (Program.make _ == _) = true; rw [hP, make_cut]; rfl)
      | (rw [hP]; as_aux_lemma => kernel_rfl)
      | (as_aux_lemma => kernel_rfl)
  exact key _ rfl
theorem over : Rows.trapTellsRow.holds Try.pinned (OpenSpec.ofChange Rows.trapTellsSpec) :=
  OpenClaim.holds_of_wide 9 Try.f9 rfl rfl rfl rfl rfl rfl rfl ⟨rfl, rfl, rfl, rfl, rfl⟩ rfl rfl rfl rfl rfl (by kernel_rfl) Try.func9 closed
    (of_decide_eq_true (by kernel_rfl)) (by unfold Func.isWrapper; first | (rw [if_pos (by decide +kernel)]; kernel_rfl) | (rw [if_neg (by decide +kernel)]; exact ⟨rfl, rfl⟩))
    (fun os started H enc _ => lifted os started H enc)
theorem proved : Rows.TrapTellsSaid :=
  over
end trapTells
end Go.Proofs.Ytlhmjhildlnokaa
