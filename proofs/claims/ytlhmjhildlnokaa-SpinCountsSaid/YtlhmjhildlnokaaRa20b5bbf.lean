/-
  The lines of a right plan: a set of edges that has an even number at each vertex bounds a set of sides. No walk stands here.
-/
import Derived.Test.YtlhmjhildlnokaaSpinR
import Derived.Test.YtlhmjhildlnokaaM2666224b
import Derived.Test.YtlhmjhildlnokaaOwn7
import Derived.Test.YtlhmjhildlnokaaPlan2
import Derived.Test.YtlhmjhildlnokaaOwn6
import Derived.Test.YtlhmjhildlnokaaRegC
import Derived.Test.YtlhmjhildlnokaaBase
import Derived.Test.YtlhmjhildlnokaaChecked
import Derived.ChangeArms
import Derived.Test.YtlhmjhildlnokaaSigns
namespace Go.Proofs.Ytlhmjhildlnokaa
set_option linter.unusedVariables false
set_option linter.unusedSimpArgs false
/-! ### Lines that cross -/
theorem Ln.cross {s t : Ln} {x y : Rat} (h1 : s.at x < t.at x) (h2 : t.at y < s.at y) : ∃ z, (x < z ∧ z < y ∨ y < z ∧ z < x) ∧ s.at z = t.at z := by
  generalize hd : t.at x - s.at x = d
  generalize he : s.at y - t.at y = e
  have d0 : 0 < d := by grind
  have e0 : 0 < e := by grind
  have de : 0 < d + e := by grind
  have de' : d + e ≠ 0 := by grind
  generalize hz : (x * e + y * d) / (d + e) = z
  have hz' : z * (d + e) = x * e + y * d := by rw [← hz]; exact Rat.div_mul_cancel de'
  have a1 := s.affine x z
  have a2 := t.affine x z
  have a3 := s.affine x y
  have a4 := t.affine x y
  have hxy : x ≠ y := by rintro rfl; grind
  refine ⟨z, ?_, ?_⟩
  · have hlt : x < y ∨ y < x := by grind
    rcases hlt with hlt | hlt
    · left
      have p1 := rat_mul_pos (by grind : 0 < y - x) e0
      have p2 := rat_mul_pos (by grind : 0 < y - x) d0
      have q1 : 0 < (z - x) * (d + e) := by grind
      have q2 : 0 < (y - z) * (d + e) := by grind
      have := rat_pos_of_mul q1 de
      have := rat_pos_of_mul q2 de
      grind
    · right
      have p1 := rat_mul_pos (by grind : 0 < x - y) e0
      have p2 := rat_mul_pos (by grind : 0 < x - y) d0
      have q1 : 0 < (x - z) * (d + e) := by grind
      have q2 : 0 < (z - y) * (d + e) := by grind
      have := rat_pos_of_mul q1 de
      have := rat_pos_of_mul q2 de
      grind
  · have e1 : (s.at z - t.at z) * (d + e) = 0 := by
      have b1 : s.at z - t.at z = (s.m - t.m) * (z - x) - d := by grind
      have b2 : (s.m - t.m) * (y - x) = d + e := by grind
      have b3 : (z - x) * (d + e) = (y - x) * d := by grind
      have : (s.at z - t.at z) * (d + e) = (s.m - t.m) * ((z - x) * (d + e)) - d * (d + e) := by rw [b1]; grind
      rw [this, b3]
      grind
    have := rat_zero_of_mul e1 de
    grind
/-- A place of the closed span. -/
def Ln.near (s : Ln) (x : Rat) : Prop := s.x1 ≤ x ∧ x ≤ s.x2
/-- The order within, and where they end. -/
theorem Ln.Sep.ends {s t : Ln} (h : s.Sep t) {x y : Rat} (sx : s.spans x) (tx : t.spans x) (sy : s.near y) (ty : t.near y) (hne : s.at y ≠ t.at y) : s.at x < t.at x ↔ s.at y < t.at y := by
  have no : ∀ z, (x < z ∧ z < y ∨ y < z ∧ z < x) → s.at z ≠ t.at z := by
    intro z hz
    unfold Ln.spans at sx tx
    unfold Ln.near at sy ty
    exact h z (by unfold Ln.spans; grind) (by unfold Ln.spans; grind)
  have hx := h x sx tx
  constructor
  · intro h1
    by_cases h2 : s.at y < t.at y
    · exact h2
    · obtain ⟨z, hz, e⟩ := Ln.cross h1 (by grind : t.at y < s.at y)
      exact absurd e (no z hz)
  · intro h1
    by_cases h2 : s.at x < t.at x
    · exact h2
    · obtain ⟨z, hz, e⟩ := Ln.cross h1 (by grind : t.at x < s.at x)
      exact absurd e (no z (by grind))
/-! ### The lines of a right plan -/
variable {vs : List Vt} {es : List Eg}
def loP (vs : List Vt) (e : Eg) : Pt := if Xi (rpt vs e.a) < Xi (rpt vs e.b) then rpt vs e.a else rpt vs e.b
def hiP (vs : List Vt) (e : Eg) : Pt := if Xi (rpt vs e.a) < Xi (rpt vs e.b) then rpt vs e.b else rpt vs e.a
def lnE (vs : List Vt) (e : Eg) : Ln := lnOf (loP vs e) (hiP vs e)
theorem inP_b {p : Pt} (h : inB p = true) : InP p := of_decide_eq_true h
theorem ends_two (vs : List Vt) (e : Eg) : (loP vs e = rpt vs e.a ∧ hiP vs e = rpt vs e.b) ∨ (loP vs e = rpt vs e.b ∧ hiP vs e = rpt vs e.a) := by
  unfold loP hiP; split <;> simp
theorem edge_in (H : RightP vs es) {e : Eg} (he : e ∈ es) : InP (loP vs e) ∧ InP (hiP vs e) ∧ Xi (loP vs e) < Xi (hiP vs e) := by
  have hE := H.each e he
  have i1 := inP_b (rpt_in H.verts hE.2.1.2.1)
  have i2 := inP_b (rpt_in H.verts hE.2.1.2.2)
  have hne := rpt_ne H.verts hE.2.1.1 hE.2.1.2.1 hE.2.1.2.2
  unfold loP hiP
  split
  · rename_i h; exact ⟨i1, i2, h⟩
  · rename_i h
    refine ⟨i2, i1, ?_⟩
    have : Xi (rpt vs e.a) ≠ Xi (rpt vs e.b) := fun q => hne (Xi_inj i1 i2 q)
    omega
theorem Xr_lt {a b : Pt} : Xr a < Xr b ↔ Xi a < Xi b := Rat.intCast_lt_intCast
theorem pair_apart (H : RightP vs es) {e f : Eg} (he : e ∈ es) (hf : f ∈ es) (hne : e ≠ f) : meetL (rpt vs e.a) (rpt vs e.b) (rpt vs f.a) (rpt vs f.b) = false := by
  have ne : ∀ g ∈ es, rpt vs g.a ≠ rpt vs g.b := fun g hg => by
    have hE := H.each g hg
    exact rpt_ne H.verts hE.2.1.1 hE.2.1.2.1 hE.2.1.2.2
  have h2 := (pairwise_get es).1 H.two
  obtain ⟨i, hi⟩ := List.getElem?_of_mem he
  obtain ⟨j, hj⟩ := List.getElem?_of_mem hf
  rcases Nat.lt_trichotomy i j with q | q | q
  · have := (h2 i j e f q hi hj).2.2
    rw [← meet_eq _ _ _ _ (ne f hf) (ne e he)] at this
    rw [← meet_turn]; exact this
  · subst q; rw [hi] at hj; injection hj with hj; exact absurd hj hne
  · have := (h2 j i f e q hj hi).2.2
    rw [← meet_eq _ _ _ _ (ne e he) (ne f hf)] at this
    exact this
theorem lines_sep (H : RightP vs es) {e f : Eg} (he : e ∈ es) (hf : f ∈ es) (hne : e ≠ f) : (lnE vs e).Sep (lnE vs f) := by
  have h := pair_apart H he hf hne
  have i1 := edge_in H he
  have i2 := edge_in H hf
  refine sep_of i1.1 i1.2.1 i2.1 i2.2.1 (Xr_lt.2 i1.2.2) (Xr_lt.2 i2.2.2) ?_
  have sw : ∀ a b c d : Pt, meetL a b d c = meetL a b c d := fun a b c d => by rw [← meet_turn, meet_swap, meet_turn]
  rcases ends_two vs e with ⟨h1, h2⟩ | ⟨h1, h2⟩ <;> rcases ends_two vs f with ⟨h3, h4⟩ | ⟨h3, h4⟩ <;> rw [h1, h2, h3, h4]
  · exact h
  · rw [sw]; exact h
  · rw [meet_swap]; exact h
  · rw [sw, meet_swap]; exact h
/-- No vertex lies on the inside of a line. -/
theorem off_line (H : RightP vs es) {e : Eg} (he : e ∈ es) {v : Vt} (hv : v ∈ vs) (h1 : Xi (loP vs e) < Xi v.p) (h2 : Xi v.p < Xi (hiP vs e)) : (lnE vs e).at (Xr v.p) ≠ Yr v.p := by
  intro e0
  have i := edge_in H he
  have iv := inP_b (H.verts.each v hv).2
  have hz := (at_zero (Xr_lt.2 i.2.2) v.p).1 e0.symm
  have hw := (H.each e he).2.2
  unfold onWayR at hw
  have := List.any_eq_false.1 hw v hv
  rw [← onL_onR] at this
  have h3 : onL v.p (loP vs e) (hiP vs e) = false := by
    rcases ends_two vs e with ⟨h1, h2⟩ | ⟨h1, h2⟩ <;> rw [h1, h2]
    · simpa using this
    · rw [onL_swap]; simpa using this
  exact on_no iv i.1 i.2.1 hz h3 ⟨Xr_lt.2 h1, Xr_lt.2 h2⟩
/-- Half a step right of a whole place. -/
def hf (k : Int) : Rat := (k : Rat) + 1 / 2
theorem int_le_lt {a k : Int} : ((a : Rat) < hf k ↔ a ≤ k) ∧ (hf k < (a : Rat) ↔ k < a) := by
  unfold hf
  constructor
  · constructor
    · intro h
      refine Decidable.byContradiction fun q => ?_
      have : ((k + 1 : Int) : Rat) ≤ (a : Rat) := Rat.intCast_le_intCast.2 (by omega)
      rw [Rat.intCast_add] at this
      have e : ((1 : Int) : Rat) = 1 := rfl
      rw [e] at this
      grind
    · intro h
      have : (a : Rat) ≤ (k : Rat) := Rat.intCast_le_intCast.2 h
      grind
  · constructor
    · intro h
      refine Decidable.byContradiction fun q => ?_
      have : (a : Rat) ≤ (k : Rat) := Rat.intCast_le_intCast.2 (by omega)
      grind
    · intro h
      have : ((k + 1 : Int) : Rat) ≤ (a : Rat) := Rat.intCast_le_intCast.2 (by omega)
      rw [Rat.intCast_add] at this
      have e : ((1 : Int) : Rat) = 1 := rfl
      rw [e] at this
      grind
/-- The line goes through, half a step right of k. -/
def actB (vs : List Vt) (g : Eg) (k : Int) : Bool := decide (Xi (loP vs g) ≤ k) && decide (k < Xi (hiP vs g))
theorem act_spans {g : Eg} {k : Int} : actB vs g k = true ↔ (lnE vs g).spans (hf k) := by
  unfold actB Ln.spans lnE lnOf Xr
  rw [Bool.and_eq_true, decide_eq_true_eq, decide_eq_true_eq]
  exact ⟨fun h => ⟨int_le_lt.1.2 h.1, int_le_lt.2.2 h.2⟩, fun h => ⟨int_le_lt.1.1 h.1, int_le_lt.2.1 h.2⟩⟩
def abvB (vs : List Vt) (e g : Eg) (k : Int) : Bool := decide ((lnE vs e).at (hf k) < (lnE vs g).at (hf k))
def upZ (vs : List Vt) (es : List Eg) (z : Eg → Bool) (e : Eg) (k : Int) : Bool := xs es fun g => z g && (actB vs g k && abvB vs e g k)
/-- What a set of edges has at a vertex. -/
def bdZ (es : List Eg) (z : Eg → Bool) (v : Int) : Bool := xs es fun g => z g && (decide (g.a = v) ^^ decide (g.b = v))
theorem ln_lo (vs : List Vt) (g : Eg) : (lnE vs g).at (Xr (loP vs g)) = Yr (loP vs g) := (lnE vs g).at_1
theorem ln_hi (H : RightP vs es) {g : Eg} (hg : g ∈ es) : (lnE vs g).at (Xr (hiP vs g)) = Yr (hiP vs g) := (lnE vs g).at_2 (Xr_lt.2 (edge_in H hg).2.2)
/-- Each edge's ends are vertices. -/
theorem end_vert (H : RightP vs es) {g : Eg} (hg : g ∈ es) : (∃ v ∈ vs, v.id = g.a ∧ rpt vs g.a = v.p) ∧ ∃ v ∈ vs, v.id = g.b ∧ rpt vs g.b = v.p := by
  have hE := H.each g hg
  have key : ∀ i : Int, (vs.find? fun v => v.id == i).isSome = true → ∃ v ∈ vs, v.id = i ∧ rpt vs i = v.p := by
    intro i hs
    obtain ⟨v, hv⟩ := Option.isSome_iff_exists.1 hs
    refine ⟨v, List.mem_of_find?_eq_some hv, by simpa using List.find?_some hv, ?_⟩
    unfold rpt; rw [hv]; rfl
  exact ⟨key _ hE.2.1.2.1, key _ hE.2.1.2.2⟩
theorem vert_X (H : RightP vs es) {u v : Vt} (hu : u ∈ vs) (hv : v ∈ vs) : Xi u.p = Xi v.p ↔ u.id = v.id := by
  have h2 := (pairwise_get vs).1 H.verts.two
  obtain ⟨i, hi⟩ := List.getElem?_of_mem hu
  obtain ⟨j, hj⟩ := List.getElem?_of_mem hv
  have iu := inP_b (H.verts.each u hu).2
  have iv := inP_b (H.verts.each v hv).2
  rcases Nat.lt_trichotomy i j with q | q | q
  · have := h2 i j u v q hi hj
    constructor
    · intro e; exact absurd (Xi_inj iu iv e) this.2
    · intro e; omega
  · subst q; rw [hi] at hj; injection hj with hj; subst hj; simp
  · have := h2 j i v u q hj hi
    constructor
    · intro e; exact absurd (Xi_inj iu iv e).symm this.2
    · intro e; omega
/-- Which end of an edge stands at a vertex. -/
theorem end_at (H : RightP vs es) {g : Eg} (hg : g ∈ es) {v : Vt} (hv : v ∈ vs) : (decide (g.a = v.id) ^^ decide (g.b = v.id)) = (decide (Xi (hiP vs g) = Xi v.p) ^^ decide (Xi (loP vs g) = Xi v.p)) := by
  obtain ⟨⟨u, hu, h1, h2⟩, w, hw, h3, h4⟩ := end_vert H hg
  have e1 := vert_X H hu hv
  have e2 := vert_X H hw hv
  rw [h1, ← h2] at e1
  rw [h3, ← h4] at e2
  rw [← decide_eq_decide.2 e1, ← decide_eq_decide.2 e2]
  rcases ends_two vs g with ⟨q1, q2⟩ | ⟨q1, q2⟩ <;> rw [q1, q2]
  exact Bool.xor_comm _ _
theorem keeps_hf (H : RightP vs es) {e g : Eg} (he : e ∈ es) (hg : g ∈ es) {k m : Int} (e1 : actB vs e k = true) (g1 : actB vs g k = true) (e2 : actB vs e m = true) (g2 : actB vs g m = true) : abvB vs e g k = abvB vs e g m := by
  by_cases q : e = g
  · subst q; unfold abvB; rw [decide_eq_false (by grind), decide_eq_false (by grind)]
  · have h := lines_sep H he hg q
    have s1 := act_spans.1 e1
    have s2 := act_spans.1 g1
    have s3 := act_spans.1 e2
    have s4 := act_spans.1 g2
    unfold abvB
    rw [decide_eq_decide]
    exact h.ends s1 s2 ⟨Rat.le_of_lt s3.1, Rat.le_of_lt s3.2⟩ ⟨Rat.le_of_lt s4.1, Rat.le_of_lt s4.2⟩ (h _ s3 s4)
/-- Above a vertex of its span. -/
def ovr (vs : List Vt) (e : Eg) (v : Vt) : Bool := decide ((lnE vs e).at (Xr v.p) < Yr v.p)
theorem end_hf (H : RightP vs es) {e g : Eg} (he : e ∈ es) (hg : g ∈ es) {v : Vt} (hv : v ∈ vs) {k : Int} (e1 : actB vs e k = true) (g1 : actB vs g k = true) (h1 : Xi (loP vs e) < Xi v.p) (h2 : Xi v.p < Xi (hiP vs e))
    (h3 : (Xi (hiP vs g) = Xi v.p ∧ hiP vs g = v.p) ∨ (Xi (loP vs g) = Xi v.p ∧ loP vs g = v.p)) : abvB vs e g k = ovr vs e v := by
  have hne : e ≠ g := by
    rintro rfl
    omega
  have h := lines_sep H he hg hne
  have off := off_line H he hv h1 h2
  have i := edge_in H hg
  have hat : (lnE vs g).at (Xr v.p) = Yr v.p := by
    rcases h3 with ⟨_, h3⟩ | ⟨_, h3⟩
    · rw [← h3, ln_hi H hg]
    · rw [← h3, ln_lo]
  unfold abvB ovr
  rw [decide_eq_decide, ← hat]
  refine h.ends (act_spans.1 e1) (act_spans.1 g1) ⟨?_, ?_⟩ ⟨?_, ?_⟩ (by rw [hat]; exact off)
  · exact Rat.le_of_lt (Xr_lt.2 h1)
  · exact Rat.le_of_lt (Xr_lt.2 h2)
  · have : Xi (loP vs g) ≤ Xi v.p := by omega
    exact Rat.intCast_le_intCast.2 this
  · have : Xi v.p ≤ Xi (hiP vs g) := by omega
    exact Rat.intCast_le_intCast.2 this
theorem up_step (H : RightP vs es) {z : Eg → Bool} (hz : ∀ v ∈ vs, bdZ es z v.id = false) {e : Eg} (he : e ∈ es) {k : Int} (h1 : Xi (loP vs e) < k) (h2 : k < Xi (hiP vs e)) : upZ vs es z e (k - 1) = upZ vs es z e k := by
  have a1 : actB vs e (k - 1) = true := by unfold actB; rw [decide_eq_true (by omega), decide_eq_true (by omega)]; rfl
  have a2 : actB vs e k = true := by unfold actB; rw [decide_eq_true (by omega), decide_eq_true (by omega)]; rfl
  by_cases hv : ∃ v ∈ vs, Xi v.p = k
  · obtain ⟨v, hv, rfl⟩ := hv
    have key : (upZ vs es z e (Xi v.p - 1) ^^ upZ vs es z e (Xi v.p)) = (ovr vs e v && bdZ es z v.id) := by
      unfold upZ bdZ
      rw [← xs_xor, ← xs_and]
      refine xs_congr fun g hg => ?_
      have i := edge_in H hg
      rw [end_at H hg hv]
      obtain ⟨⟨u, hu, q1, q2⟩, w, hw, q3, q4⟩ := end_vert H hg
      have iv := inP_b (H.verts.each v hv).2
      rcases Int.lt_trichotomy (Xi (hiP vs g)) (Xi v.p) with c1 | c1 | c1
      · have b1 : actB vs g (Xi v.p - 1) = false := by unfold actB; rw [decide_eq_false (p := _ < _) (by omega), Bool.and_false]
        have b2 : actB vs g (Xi v.p) = false := by unfold actB; rw [decide_eq_false (p := _ < _) (by omega), Bool.and_false]
        rw [b1, b2, decide_eq_false (by omega), decide_eq_false (by omega)]
        simp
      · have b1 : actB vs g (Xi v.p - 1) = true := by unfold actB; rw [decide_eq_true (by omega), decide_eq_true (by omega)]; rfl
        have b2 : actB vs g (Xi v.p) = false := by unfold actB; rw [decide_eq_false (p := _ < _) (by omega), Bool.and_false]
        rw [b1, b2, decide_eq_true c1, decide_eq_false (by omega), end_hf H he hg hv a1 b1 h1 h2 (.inl ⟨c1, Xi_inj i.2.1 iv c1⟩)]
        cases z g <;> simp
      · rcases Int.lt_trichotomy (Xi (loP vs g)) (Xi v.p) with c2 | c2 | c2
        · have b1 : actB vs g (Xi v.p - 1) = true := by unfold actB; rw [decide_eq_true (by omega), decide_eq_true (by omega)]; rfl
          have b2 : actB vs g (Xi v.p) = true := by unfold actB; rw [decide_eq_true (by omega), decide_eq_true (by omega)]; rfl
          rw [b1, b2, decide_eq_false (by omega), decide_eq_false (by omega), keeps_hf H he hg a1 b1 a2 b2]
          simp
        · have b1 : actB vs g (Xi v.p - 1) = false := by unfold actB; rw [decide_eq_false (p := _ ≤ _) (by omega), Bool.false_and]
          have b2 : actB vs g (Xi v.p) = true := by unfold actB; rw [decide_eq_true (by omega), decide_eq_true (by omega)]; rfl
          rw [b1, b2, decide_eq_true c2, decide_eq_false (by omega), end_hf H he hg hv a2 b2 h1 h2 (.inr ⟨c2, Xi_inj i.1 iv c2⟩)]
          cases z g <;> simp
        · have b1 : actB vs g (Xi v.p - 1) = false := by unfold actB; rw [decide_eq_false (p := _ ≤ _) (by omega), Bool.false_and]
          have b2 : actB vs g (Xi v.p) = false := by unfold actB; rw [decide_eq_false (p := _ ≤ _) (by omega), Bool.false_and]
          rw [b1, b2, decide_eq_false (by omega), decide_eq_false (by omega)]
          simp
    rw [hz v hv, Bool.and_false] at key
    generalize upZ vs es z e (Xi v.p - 1) = p at key ⊢
    generalize upZ vs es z e (Xi v.p) = q at key ⊢
    cases p <;> cases q <;> simp at key ⊢
  · unfold upZ
    refine xs_congr fun g hg => ?_
    obtain ⟨⟨u, hu, q1, q2⟩, w, hw, q3, q4⟩ := end_vert H hg
    have n1 : Xi (rpt vs g.a) ≠ k := fun q => hv ⟨u, hu, by rw [← q2]; exact q⟩
    have n2 : Xi (rpt vs g.b) ≠ k := fun q => hv ⟨w, hw, by rw [← q4]; exact q⟩
    have n3 : Xi (loP vs g) ≠ k ∧ Xi (hiP vs g) ≠ k := by rcases ends_two vs g with ⟨e1, e2⟩ | ⟨e1, e2⟩ <;> rw [e1, e2] <;> exact ⟨by assumption, by assumption⟩
    have b : actB vs g (k - 1) = actB vs g k := by
      unfold actB
      congr 1
      · rw [decide_eq_decide]; omega
      · rw [decide_eq_decide]; omega
    rw [b]
    cases hb : actB vs g k with
    | false => simp
    | true => rw [keeps_hf H he hg a1 (b.trans hb) a2 hb]
theorem up_all (H : RightP vs es) {z : Eg → Bool} (hz : ∀ v ∈ vs, bdZ es z v.id = false) {e : Eg} (he : e ∈ es) {k : Int} (h1 : Xi (loP vs e) ≤ k) (h2 : k < Xi (hiP vs e)) : upZ vs es z e k = upZ vs es z e (Xi (loP vs e)) := by
  obtain ⟨n, hn⟩ : ∃ n : Nat, k = Xi (loP vs e) + n := ⟨(k - Xi (loP vs e)).toNat, by omega⟩
  induction n generalizing k with
  | zero => rw [hn]; simp
  | succ n ih =>
    rw [← up_step H hz he (by omega) h2]
    exact ih (by omega) (by omega) (by omega)
/-! ### Around a vertex -/
/-- Slopes of two lines that go through one point. -/
theorem Ln.fan_r {s t : Ln} {x0 x y : Rat} (h : s.at x0 = t.at x0) (hx : x0 < x) (hy : x0 < y) : s.at x < t.at x ↔ s.at y < t.at y := by
  have a1 := s.affine x0 x
  have a2 := t.affine x0 x
  have a3 := s.affine x0 y
  have a4 := t.affine x0 y
  have key : ∀ z, x0 < z → (s.at z < t.at z ↔ s.m < t.m) := by
    intro z hz
    have a1 := s.affine x0 z
    have a2 := t.affine x0 z
    have hp : 0 < z - x0 := by grind
    constructor
    · intro h1
      have : 0 < (t.m - s.m) * (z - x0) := by grind
      have := rat_pos_of_mul this hp
      grind
    · intro h1
      have := rat_mul_pos (by grind : 0 < t.m - s.m) hp
      grind
  rw [key x hx, key y hy]
theorem Ln.fan_l {s t : Ln} {x0 x y : Rat} (h : s.at x0 = t.at x0) (hx : x < x0) (hy : y < x0) : s.at x < t.at x ↔ s.at y < t.at y := by
  have key : ∀ z, z < x0 → (s.at z < t.at z ↔ t.m < s.m) := by
    intro z hz
    have a1 := s.affine x0 z
    have a2 := t.affine x0 z
    have hp : 0 < x0 - z := by grind
    constructor
    · intro h1
      have : 0 < (s.m - t.m) * (x0 - z) := by grind
      have := rat_pos_of_mul this hp
      grind
    · intro h1
      have := rat_mul_pos (by grind : 0 < s.m - t.m) hp
      grind
  rw [key x hx, key y hy]
theorem abv_r (H : RightP vs es) {t g : Eg} (ht : t ∈ es) (hg : g ∈ es) {o : Pt} (h1 : loP vs t = o) (h2 : loP vs g = o) : abvB vs t g (Xi o) = decide (0 < crossZ o (hiP vs t) (hiP vs g)) := by
  have it := edge_in H ht
  have ig := edge_in H hg
  have e1 : (lnE vs t).at (Xr o) = (lnE vs g).at (Xr o) := by
    rw [← h1, ln_lo, h1, ← h2, ln_lo, h2, ← h1]
  unfold abvB
  rw [decide_eq_decide, Ln.fan_r e1 (int_le_lt.1.2 (Int.le_refl _)) (y := Xr (hiP vs g)) (by rw [← h2]; exact Xr_lt.2 ig.2.2)]
  rw [ln_hi H hg, ← h1]
  exact at_pos (Xr_lt.2 it.2.2) _
theorem abv_l (H : RightP vs es) {t g : Eg} (ht : t ∈ es) (hg : g ∈ es) {o : Pt} (h1 : hiP vs t = o) (h2 : hiP vs g = o) : abvB vs t g (Xi o - 1) = decide (crossZ o (loP vs t) (loP vs g) < 0) := by
  have it := edge_in H ht
  have ig := edge_in H hg
  have e1 : (lnE vs t).at (Xr o) = (lnE vs g).at (Xr o) := by
    rw [← h1, ln_hi H ht, h1, ← h2, ln_hi H hg, h2, ← h1]
  unfold abvB
  rw [decide_eq_decide, Ln.fan_l e1 (int_le_lt.2.2 (by omega)) (y := Xr (loP vs g)) (by rw [← h2]; exact Xr_lt.2 ig.2.2)]
  rw [ln_lo, ← h1]
  have := at_pos (Xr_lt.2 it.2.2) (loP vs g)
  rw [show crossZ (hiP vs t) (loP vs t) (loP vs g) = - crossZ (loP vs t) (hiP vs t) (loP vs g) by unfold crossZ; grind]
  show (lnOf (loP vs t) (hiP vs t)).at _ < _ ↔ _
  rw [this]
  omega
/-- Edges that go by above a vertex. -/
def passZ (vs : List Vt) (es : List Eg) (z : Eg → Bool) (o : Pt) : Bool := xs es fun g => z g && (decide (Xi (loP vs g) < Xi o) && decide (Xi o < Xi (hiP vs g)) && decide (Yr o < (lnE vs g).at (Xr o)))
/-- Where a half goes: to the right, as points are seen. -/
def rgt (vs : List Vt) (es : List Eg) (v : Int) (h : Hf) : Bool := decide (Xi (rpt vs v) < Xi (farP vs es h))
/-- The halves at v that stand above t, next to v. -/
def psi (vs : List Vt) (es : List Eg) (v : Int) (t g : Hf) : Bool :=
  if rgt vs es v t then rgt vs es v g && decide (0 < crossZ (rpt vs v) (farP vs es t) (farP vs es g))
  else !rgt vs es v g && (decide (g = t) || decide (crossZ (rpt vs v) (farP vs es t) (farP vs es g) < 0))
theorem out_far (H : RightP vs es) {v : Int} {h : Hf} (hm : h ∈ outU es v) : ∃ e ∈ es, e = egOf es h.e ∧ h.e = e.id ∧ rpt vs v = (if h.b then rpt vs e.b else rpt vs e.a) ∧ farP vs es h = (if h.b then rpt vs e.a else rpt vs e.b) ∧ (if h.b then e.b else e.a) = v ∧ Xi (rpt vs v) ≠ Xi (farP vs es h) ∧
    (rgt vs es v h = true → loP vs e = rpt vs v ∧ hiP vs e = farP vs es h) ∧ (rgt vs es v h = false → hiP vs e = rpt vs v ∧ loP vs e = farP vs es h) := by
  obtain ⟨hm, hf⟩ := mem_outU.1 hm
  obtain ⟨e, he, hid⟩ := mem_halves.1 hm
  obtain ⟨he', b⟩ := h
  simp only at hid
  subst hid
  have e1 := egOf_mem H he
  have i := edge_in H he
  refine ⟨e, he, e1.symm, rfl, ?_⟩
  have f1 : (if b then e.b else e.a) = v := by rw [← hf]; unfold fromZ; rw [e1]
  have f2 : farP vs es ⟨e.id, b⟩ = (if b then rpt vs e.a else rpt vs e.b) := by
    unfold farP toZ fromZ twinH; simp only; rw [e1]; cases b <;> rfl
  have f3 : rpt vs v = (if b then rpt vs e.b else rpt vs e.a) := by rw [← f1]; cases b <;> rfl
  refine ⟨f3, f2, f1, ?_⟩
  unfold rgt
  rw [f2, f3]
  unfold loP hiP at i ⊢
  by_cases q : Xi (rpt vs e.a) < Xi (rpt vs e.b)
  · simp only [if_pos q] at i ⊢
    cases b
    · simp [q]; omega
    · simp; omega
  · simp only [if_neg q] at i ⊢
    cases b
    · simp; omega
    · simp; omega
/-- A sum over what leaves a vertex, told over the edges. -/
theorem xs_out (H : RightP vs es) (v : Int) (f : Hf → Bool) : xs (outU es v) f = xs es fun e => (decide (e.a = v) && f ⟨e.id, false⟩) ^^ (decide (e.b = v) && f ⟨e.id, true⟩) := by
  unfold outU halves
  rw [xs_filter, xs_flatMap]
  refine xs_congr fun e he => ?_
  have e1 := egOf_mem H he
  simp only [xs_cons, xs_nil, Bool.xor_false]
  unfold fromZ
  simp only [e1, if_true, Bool.false_eq_true, if_false]
  rfl
theorem vert_pt (H : RightP vs es) {v : Vt} (hv : v ∈ vs) {x : Int} (hs : (vs.find? fun v => v.id == x).isSome = true) : rpt vs x = v.p ↔ x = v.id := by
  obtain ⟨u, hu⟩ := Option.isSome_iff_exists.1 hs
  have h1 : u.id = x := by simpa using List.find?_some hu
  have h2 : rpt vs x = u.p := by unfold rpt; rw [hu]; rfl
  have hum := List.mem_of_find?_eq_some hu
  have := vert_X H hum hv
  rw [h2, ← h1, ← this]
  exact ⟨fun h => by rw [h], fun h => Xi_inj (inP_b (H.verts.each u hum).2) (inP_b (H.verts.each v hv).2) h⟩
/-- The part of an edge that begins, ends, or does neither at a vertex. -/
theorem inc_lo (H : RightP vs es) {v : Vt} (hv : v ∈ vs) {g : Eg} (hg : g ∈ es) (hl : loP vs g = v.p) : ∃ h : Hf, h.e = g.id ∧ rgt vs es v.id h = true ∧ farP vs es h = hiP vs g ∧ h ∈ outU es v.id ∧
    ∀ f : Hf → Bool, ((decide (g.a = v.id) && f ⟨g.id, false⟩) ^^ (decide (g.b = v.id) && f ⟨g.id, true⟩)) = f h := by
  have hE := H.each g hg
  have e1 := egOf_mem H hg
  have pa := vert_pt H hv hE.2.1.2.1
  have pb := vert_pt H hv hE.2.1.2.2
  have i := edge_in H hg
  rcases ends_two vs g with ⟨q1, q2⟩ | ⟨q1, q2⟩
  · have ha : g.a = v.id := pa.1 (by rw [← q1]; exact hl)
    have hb : g.b ≠ v.id := fun q => hE.2.1.1 (by rw [ha, q])
    have ff : farP vs es ⟨g.id, false⟩ = hiP vs g := by unfold farP toZ fromZ twinH; simp only; rw [e1, q2]; rfl
    refine ⟨⟨g.id, false⟩, rfl, ?_, ff, mem_outU.2 ⟨mem_halves.2 ⟨g, hg, rfl⟩, by unfold fromZ; rw [e1]; exact ha⟩, fun f => by simp [ha, hb]⟩
    unfold rgt
    rw [ff, ← ha, ← q1]
    exact decide_eq_true i.2.2
  · have hb : g.b = v.id := pb.1 (by rw [← q1]; exact hl)
    have ha : g.a ≠ v.id := fun q => hE.2.1.1 (by rw [hb, q])
    have ff : farP vs es ⟨g.id, true⟩ = hiP vs g := by unfold farP toZ fromZ twinH; simp only; rw [e1, q2]; rfl
    refine ⟨⟨g.id, true⟩, rfl, ?_, ff, mem_outU.2 ⟨mem_halves.2 ⟨g, hg, rfl⟩, by unfold fromZ; rw [e1]; exact hb⟩, fun f => by simp [ha, hb]⟩
    unfold rgt
    rw [ff, ← hb, ← q1]
    exact decide_eq_true i.2.2
theorem inc_hi (H : RightP vs es) {v : Vt} (hv : v ∈ vs) {g : Eg} (hg : g ∈ es) (hl : hiP vs g = v.p) : ∃ h : Hf, h.e = g.id ∧ rgt vs es v.id h = false ∧ farP vs es h = loP vs g ∧ h ∈ outU es v.id ∧
    ∀ f : Hf → Bool, ((decide (g.a = v.id) && f ⟨g.id, false⟩) ^^ (decide (g.b = v.id) && f ⟨g.id, true⟩)) = f h := by
  have hE := H.each g hg
  have e1 := egOf_mem H hg
  have pa := vert_pt H hv hE.2.1.2.1
  have pb := vert_pt H hv hE.2.1.2.2
  have i := edge_in H hg
  rcases ends_two vs g with ⟨q1, q2⟩ | ⟨q1, q2⟩
  · have hb : g.b = v.id := pb.1 (by rw [← q2]; exact hl)
    have ha : g.a ≠ v.id := fun q => hE.2.1.1 (by rw [hb, q])
    have ff : farP vs es ⟨g.id, true⟩ = loP vs g := by unfold farP toZ fromZ twinH; simp only; rw [e1, q1]; rfl
    refine ⟨⟨g.id, true⟩, rfl, ?_, ff, mem_outU.2 ⟨mem_halves.2 ⟨g, hg, rfl⟩, by unfold fromZ; rw [e1]; exact hb⟩, fun f => by simp [ha, hb]⟩
    unfold rgt
    rw [ff, ← hb, ← q2]
    exact decide_eq_false (by omega)
  · have ha : g.a = v.id := pa.1 (by rw [← q2]; exact hl)
    have hb : g.b ≠ v.id := fun q => hE.2.1.1 (by rw [ha, q])
    have ff : farP vs es ⟨g.id, false⟩ = loP vs g := by unfold farP toZ fromZ twinH; simp only; rw [e1, q1]; rfl
    refine ⟨⟨g.id, false⟩, rfl, ?_, ff, mem_outU.2 ⟨mem_halves.2 ⟨g, hg, rfl⟩, by unfold fromZ; rw [e1]; exact ha⟩, fun f => by simp [ha, hb]⟩
    unfold rgt
    rw [ff, ← ha, ← q2]
    exact decide_eq_false (by omega)
theorem inc_no (H : RightP vs es) {v : Vt} (hv : v ∈ vs) {g : Eg} (hg : g ∈ es) (h1 : loP vs g ≠ v.p) (h2 : hiP vs g ≠ v.p) (f : Hf → Bool) : ((decide (g.a = v.id) && f ⟨g.id, false⟩) ^^ (decide (g.b = v.id) && f ⟨g.id, true⟩)) = false := by
  have hE := H.each g hg
  have pa := vert_pt H hv hE.2.1.2.1
  have pb := vert_pt H hv hE.2.1.2.2
  have : rpt vs g.a ≠ v.p ∧ rpt vs g.b ≠ v.p := by rcases ends_two vs g with ⟨q1, q2⟩ | ⟨q1, q2⟩ <;> rw [q1] at h1 <;> rw [q2] at h2 <;> exact ⟨by assumption, by assumption⟩
  have ha : g.a ≠ v.id := fun q => this.1 (pa.2 q)
  have hb : g.b ≠ v.id := fun q => this.2 (pb.2 q)
  simp [ha, hb]
theorem pass_hf (H : RightP vs es) {e g : Eg} (he : e ∈ es) (hg : g ∈ es) {v : Vt} (hv : v ∈ vs) {k : Int} (e1 : actB vs e k = true) (g1 : actB vs g k = true) (h1 : loP vs e = v.p ∨ hiP vs e = v.p) (h2 : Xi (loP vs g) < Xi v.p) (h3 : Xi v.p < Xi (hiP vs g)) :
    abvB vs e g k = decide (Yr v.p < (lnE vs g).at (Xr v.p)) := by
  have ie := edge_in H he
  have hne : e ≠ g := by
    rintro rfl
    rcases h1 with h1 | h1 <;> have := congrArg Xi h1 <;> omega
  have off := off_line H hg hv h2 h3
  have hat : (lnE vs e).at (Xr v.p) = Yr v.p := by
    rcases h1 with h1 | h1
    · rw [← h1, ln_lo]
    · rw [← h1, ln_hi H he]
  unfold abvB
  rw [decide_eq_decide, ← hat]
  have hXle : ∀ {a b : Pt}, Xi a ≤ Xi b → Xr a ≤ Xr b := fun h => Rat.intCast_le_intCast.2 h
  refine (lines_sep H he hg hne).ends (act_spans.1 e1) (act_spans.1 g1) ⟨?_, ?_⟩ ⟨Rat.le_of_lt (Xr_lt.2 h2), Rat.le_of_lt (Xr_lt.2 h3)⟩ (by rw [hat]; exact fun q => off q.symm)
  · refine hXle (a := loP vs e) ?_
    rcases h1 with h1 | h1 <;> rw [← h1] <;> omega
  · refine hXle (b := hiP vs e) ?_
    rcases h1 with h1 | h1 <;> rw [← h1] <;> omega
/-- What stands above a half, next to its vertex. -/
theorem up_out (H : RightP vs es) (z : Eg → Bool) {v : Vt} (hv : v ∈ vs) {t : Hf} (ht : t ∈ outU es v.id) : (if rgt vs es v.id t then upZ vs es z (egOf es t.e) (Xi v.p) else upZ vs es z (egOf es t.e) (Xi v.p - 1) ^^ z (egOf es t.e)) = (passZ vs es z v.p ^^ xs (outU es v.id) fun g => psi vs es v.id t g && z (egOf es g.e)) := by
  obtain ⟨e, he, hee, hte, h3, h4, h5, h6, hr, hl⟩ := out_far H ht
  have vp : rpt vs v.id = v.p := (vert_pt H hv (by
    have hE := H.each e he
    rw [← h5]; cases t.b
    · exact hE.2.1.2.1
    · exact hE.2.1.2.2)).2 rfl
  rw [← hee]
  have iv := inP_b (H.verts.each v hv).2
  have ie := edge_in H he
  have split : ∀ g ∈ es, ∀ f : Hf → Bool, ((decide (g.a = v.id) && (f ⟨g.id, false⟩ && z (egOf es (⟨g.id, false⟩ : Hf).e))) ^^ (decide (g.b = v.id) && (f ⟨g.id, true⟩ && z (egOf es (⟨g.id, true⟩ : Hf).e)))) = (z g && ((decide (g.a = v.id) && f ⟨g.id, false⟩) ^^ (decide (g.b = v.id) && f ⟨g.id, true⟩))) := by
    intro g hg f
    have ge := egOf_mem H hg
    simp only [ge]
    cases z g <;> simp
  cases hR : rgt vs es v.id t with
  | true =>
    obtain ⟨r1, r2⟩ := hr hR
    rw [vp] at r1
    have a1 : actB vs e (Xi v.p) = true := by rw [← r1]; unfold actB; rw [decide_eq_true (by omega), decide_eq_true (by omega)]; rfl
    simp only [if_true]
    unfold upZ passZ
    rw [xs_out H, ← xs_xor]
    refine xs_congr fun g hg => ?_
    have ig := edge_in H hg
    rw [split g hg]
    by_cases c1 : loP vs g = v.p
    · obtain ⟨h, k1, k2, k3, k4, k5⟩ := inc_lo H hv hg c1
      rw [k5]
      have b2 : actB vs g (Xi v.p) = true := by rw [← c1]; unfold actB; rw [decide_eq_true (by omega), decide_eq_true (by omega)]; rfl
      rw [b2, abv_r H he hg r1 c1, c1, decide_eq_false (p := Xi v.p < Xi v.p) (by omega)]
      unfold psi
      rw [hR, k2, k3, ← r2, vp]
      simp
    · by_cases c2 : hiP vs g = v.p
      · obtain ⟨h, k1, k2, k3, k4, k5⟩ := inc_hi H hv hg c2
        rw [k5]
        have b2 : actB vs g (Xi v.p) = false := by rw [← c2]; unfold actB; rw [decide_eq_false (p := _ < _) (by omega), Bool.and_false]
        rw [b2, c2, decide_eq_false (p := Xi v.p < Xi v.p) (by omega)]
        unfold psi
        rw [hR, k2]
        simp
      · rw [inc_no H hv hg c1 c2]
        have n1 : Xi (loP vs g) ≠ Xi v.p := fun q => c1 (Xi_inj ig.1 iv q)
        have n2 : Xi (hiP vs g) ≠ Xi v.p := fun q => c2 (Xi_inj ig.2.1 iv q)
        by_cases c3 : Xi (loP vs g) < Xi v.p ∧ Xi v.p < Xi (hiP vs g)
        · have b2 : actB vs g (Xi v.p) = true := by unfold actB; rw [decide_eq_true (by omega), decide_eq_true (by omega)]; rfl
          rw [b2, pass_hf H he hg hv a1 b2 (.inl r1) c3.1 c3.2, decide_eq_true c3.1, decide_eq_true c3.2]
          simp
        · have b2 : actB vs g (Xi v.p) = false := by
            cases q : actB vs g (Xi v.p) with
            | false => rfl
            | true => unfold actB at q; simp at q; omega
          have b3 : (decide (Xi (loP vs g) < Xi v.p) && decide (Xi v.p < Xi (hiP vs g))) = false := by
            cases q : (decide (Xi (loP vs g) < Xi v.p) && decide (Xi v.p < Xi (hiP vs g))) with
            | false => rfl
            | true => simp at q; omega
          rw [b2, b3]; simp
  | false =>
    obtain ⟨r1, r2⟩ := hl hR
    rw [vp] at r1
    have a1 : actB vs e (Xi v.p - 1) = true := by rw [← r1]; unfold actB; rw [decide_eq_true (by omega), decide_eq_true (by omega)]; rfl
    simp only [Bool.false_eq_true, if_false]
    have hn : es.Nodup := H.two.imp fun {a b} h => by rintro rfl; omega
    rw [← xs_one hn he z]
    unfold upZ passZ
    rw [xs_out H, ← xs_xor, ← xs_xor]
    refine xs_congr fun g hg => ?_
    have ig := edge_in H hg
    rw [split g hg]
    by_cases c1 : loP vs g = v.p
    · obtain ⟨h, k1, k2, k3, k4, k5⟩ := inc_lo H hv hg c1
      rw [k5]
      have b2 : actB vs g (Xi v.p - 1) = false := by rw [← c1]; unfold actB; rw [decide_eq_false (p := _ ≤ _) (by omega), Bool.false_and]
      have hge : g ≠ e := by rintro rfl; rw [r1] at ie; rw [c1] at ie; omega
      rw [b2, c1, decide_eq_false (p := Xi v.p < Xi v.p) (by omega), decide_eq_false hge]
      unfold psi
      rw [hR, k2]
      simp
    · by_cases c2 : hiP vs g = v.p
      · obtain ⟨h, k1, k2, k3, k4, k5⟩ := inc_hi H hv hg c2
        rw [k5]
        have b2 : actB vs g (Xi v.p - 1) = true := by rw [← c2]; unfold actB; rw [decide_eq_true (by omega), decide_eq_true (by omega)]; rfl
        rw [b2, abv_l H he hg r1 c2, c2, decide_eq_false (p := Xi v.p < Xi v.p) (by omega)]
        unfold psi
        rw [hR, k2, k3, ← r2, vp]
        have ht2 : h = t ↔ g = e := by
          constructor
          · rintro rfl; rw [← egOf_mem H hg, ← egOf_mem H he, ← k1, ← hte]
          · rintro rfl
            obtain ⟨h1, b1⟩ := h
            obtain ⟨t1, b2⟩ := t
            simp only at k1 hte
            subst k1 hte
            have x1 := (mem_outU.1 k4).2
            have x2 := (mem_outU.1 ht).2
            rw [← x2] at x1
            have := (H.each g hg).2.1.1
            unfold fromZ at x1
            simp only [egOf_mem H hg] at x1
            cases b1 <;> cases b2 <;> simp at x1 ⊢ <;> omega
        by_cases hge : g = e
        · subst hge
          have : crossZ v.p (loP vs g) (loP vs g) = 0 := by unfold crossZ; grind
          rw [this, decide_eq_true (ht2.2 rfl)]
          simp
        · rw [decide_eq_false hge, decide_eq_false fun q => hge (ht2.1 q)]
          simp
      · rw [inc_no H hv hg c1 c2]
        have n1 : Xi (loP vs g) ≠ Xi v.p := fun q => c1 (Xi_inj ig.1 iv q)
        have n2 : Xi (hiP vs g) ≠ Xi v.p := fun q => c2 (Xi_inj ig.2.1 iv q)
        have hge : g ≠ e := by rintro rfl; exact c2 r1
        rw [decide_eq_false hge]
        by_cases c3 : Xi (loP vs g) < Xi v.p ∧ Xi v.p < Xi (hiP vs g)
        · have b2 : actB vs g (Xi v.p - 1) = true := by unfold actB; rw [decide_eq_true (by omega), decide_eq_true (by omega)]; rfl
          rw [b2, pass_hf H he hg hv a1 b2 (.inr r1) c3.1 c3.2, decide_eq_true c3.1, decide_eq_true c3.2]
          simp
        · have b2 : actB vs g (Xi v.p - 1) = false := by
            cases q : actB vs g (Xi v.p - 1) with
            | false => rfl
            | true => unfold actB at q; simp at q; omega
          have b3 : (decide (Xi (loP vs g) < Xi v.p) && decide (Xi v.p < Xi (hiP vs g))) = false := by
            cases q : (decide (Xi (loP vs g) < Xi v.p) && decide (Xi v.p < Xi (hiP vs g))) with
            | false => rfl
            | true => simp at q; omega
          rw [b2, b3]; simp
def RtI (a b : Int) : Prop := 0 < a ∨ a = 0 ∧ 0 < b
def HfI (a b : Int) : Prop := 0 < b ∨ b = 0 ∧ 0 < a
instance (a b : Int) : Decidable (RtI a b) := inferInstanceAs (Decidable (_ ∨ _))
instance (a b : Int) : Decidable (HfI a b) := inferInstanceAs (Decidable (_ ∨ _))
theorem quad1 {a b c d : Int} (ha : 0 ≤ a) (hb : 0 ≤ b) (hab : 0 < a ∨ 0 < b) (hc : c < 0) (hd : 0 < d) : 0 < a * d - b * c := by
  obtain ⟨p1, p2, p3, p4, p5, p6⟩ := prod_sign a d
  obtain ⟨q1, q2, q3, q4, q5, q6⟩ := prod_sign b c
  rcases (by omega : 0 < a ∨ a = 0) with h | h <;> rcases (by omega : 0 < b ∨ b = 0) with k | k <;> omega
theorem dir_signs {a b c d : Int} (ht : a ≠ 0 ∨ b ≠ 0) (hg : c ≠ 0 ∨ d ≠ 0) :
    (RtI a b → HfI a b → ¬ RtI c d → HfI c d → 0 < a * d - b * c) ∧ (RtI a b → HfI a b → RtI c d → ¬ HfI c d → ¬ 0 < a * d - b * c) ∧
    (¬ RtI a b → HfI a b → RtI c d → HfI c d → ¬ 0 < a * d - b * c) ∧ (¬ RtI a b → HfI a b → ¬ RtI c d → ¬ HfI c d → ¬ a * d - b * c < 0) ∧
    (¬ RtI a b → ¬ HfI a b → ¬ RtI c d → HfI c d → a * d - b * c < 0) ∧ (¬ RtI a b → ¬ HfI a b → RtI c d → ¬ HfI c d → 0 < a * d - b * c) ∧
    (RtI a b → ¬ HfI a b → RtI c d → HfI c d → 0 < a * d - b * c) ∧ (RtI a b → ¬ HfI a b → ¬ RtI c d → ¬ HfI c d → ¬ 0 < a * d - b * c) := by
  obtain ⟨p1, p2, p3, p4, p5, p6⟩ := prod_sign a d
  obtain ⟨q1, q2, q3, q4, q5, q6⟩ := prod_sign b c
  generalize a * d = p at *
  generalize b * c = q at *
  unfold RtI HfI
  rcases Int.lt_trichotomy a 0 with ha | ha | ha <;> rcases Int.lt_trichotomy b 0 with hb | hb | hb <;> rcases Int.lt_trichotomy c 0 with hc | hc | hc <;> rcases Int.lt_trichotomy d 0 with hd | hd | hd <;>
    (refine ⟨?_, ?_, ?_, ?_, ?_, ?_, ?_, ?_⟩ <;> intro h1 h2 h3 h4 <;> omega)
theorem psi_bool {A B E : Prop} [Decidable A] [Decidable B] [Decidable E] {m n q : Int} (hm : m = 0 ∨ m = 1) (hn : n = 0 ∨ n = 1)
    (hS : (A → m = 0 → ¬ B → n = 0 → 0 < q) ∧ (A → m = 0 → B → ¬ n = 0 → ¬ 0 < q) ∧ (¬ A → m = 0 → B → n = 0 → ¬ 0 < q) ∧ (¬ A → m = 0 → ¬ B → ¬ n = 0 → ¬ q < 0) ∧ (¬ A → ¬ m = 0 → ¬ B → n = 0 → q < 0) ∧ (¬ A → ¬ m = 0 → B → ¬ n = 0 → 0 < q) ∧ (A → ¬ m = 0 → B → n = 0 → 0 < q) ∧ (A → ¬ m = 0 → ¬ B → ¬ n = 0 → ¬ 0 < q))
    (h0 : m = n → q = 0 → E) (hq : E → q = 0) (hR : E → (A ↔ B)) (hH : E → m = n) :
    (if decide A then decide B && decide (0 < q) else !decide B && (decide E || decide (q < 0))) = ((if m = n then decide (0 < q) else decide (m = 0)) ^^ ((decide B && decide (n = 0)) ^^ !(decide A && decide (m = 1)))) := by
  obtain ⟨s1, s2, s3, s4, s5, s6, s7, s8⟩ := hS
  by_cases he : E
  · have := hq he
    have := hR he
    have := hH he
    subst m
    by_cases hA : A
    · have hB : B := by rwa [← this]
      rcases hn with rfl | rfl <;> simp [hA, hB, he, hq he]
    · have hB : ¬ B := by rwa [← this]
      rcases hn with rfl | rfl <;> simp [hA, hB, he, hq he]
  · rcases hm with rfl | rfl <;> rcases hn with rfl | rfl <;> by_cases hA : A <;> by_cases hB : B <;> simp only [hA, hB, he, not_true, not_false_iff, true_implies, false_implies, decide_true, decide_false, if_true] at s1 s2 s3 s4 s5 s6 s7 s8 h0 ⊢ <;>
      rcases Int.lt_trichotomy q 0 with h | h | h <;> first
        | omega
        | (subst h; simp; done)
        | (have k1 : ¬ 0 < q := by omega
           simp [h, k1]; done)
        | (have k1 : ¬ q < 0 := by omega
           simp [h, k1]; done)
        | (subst h; simp at h0)
/-- Right, and in the upper half; right, and in the lower one. -/
def cR0 (vs : List Vt) (es : List Eg) (v : Int) (g : Hf) : Bool := rgt vs es v g && decide (halfZ (rpt vs v) (farP vs es g) = 0)
def cR1 (vs : List Vt) (es : List Eg) (v : Int) (g : Hf) : Bool := rgt vs es v g && decide (halfZ (rpt vs v) (farP vs es g) = 1)
theorem rgt_dir {o p : Pt} (io : InP o) (ip : InP p) : Xi o < Xi p ↔ RtI (p.x - o.x) (p.y - o.y) := by
  rw [← less_Xi io ip]; unfold LessP RtI; omega
theorem half_dir (o p : Pt) : halfZ o p = 0 ↔ HfI (p.x - o.x) (p.y - o.y) := by
  unfold halfZ HfI
  split <;> omega
theorem psi_lt (H : RightP vs es) {v : Int} {t g : Hf} (ht : t ∈ outU es v) (hg : g ∈ outU es v) : psi vs es v t g = (ltAt vs es v t g ^^ (cR0 vs es v g ^^ !cR1 vs es v t)) := by
  have mt := mem_outU.1 ht
  have mg := mem_outU.1 hg
  have ha := around_at H mt mg
  have et := half_ends H mt.1
  have eg := half_ends H mg.1
  have io : InP (rpt vs v) := by rw [← mt.2]; exact inP_b (rpt_in H.verts et.1)
  have it : InP (farP vs es t) := inP_b (rpt_in H.verts et.2.1)
  have ig : InP (farP vs es g) := inP_b (rpt_in H.verts eg.2.1)
  have nt := pt_ne ha.2.1
  have ng := pt_ne ha.2.2
  have hS := dir_signs (a := (farP vs es t).x - (rpt vs v).x) (b := (farP vs es t).y - (rpt vs v).y) (c := (farP vs es g).x - (rpt vs v).x) (d := (farP vs es g).y - (rpt vs v).y) (by omega) (by omega)
  have h0 : halfZ (rpt vs v) (farP vs es t) = halfZ (rpt vs v) (farP vs es g) → crossZ (rpt vs v) (farP vs es t) (farP vs es g) = 0 → g = t := fun h1 h2 => by
    refine Decidable.byContradiction fun hne => ?_
    have := apart_ways H mt.1 mg.1 (by rw [mt.2, mg.2]) (fun q => hne q.symm)
    rw [mt.2] at this
    apply this
    unfold aroundL
    rw [if_pos (by omega), turn_eq0 h2]; rfl
  have he : g = t → crossZ (rpt vs v) (farP vs es t) (farP vs es g) = 0 ∧ farP vs es t = farP vs es g := fun h => by subst h; exact ⟨cross_abb _ _, rfl⟩
  have hc : crossZ (rpt vs v) (farP vs es t) (farP vs es g) = ((farP vs es t).x - (rpt vs v).x) * ((farP vs es g).y - (rpt vs v).y) - ((farP vs es t).y - (rpt vs v).y) * ((farP vs es g).x - (rpt vs v).x) := rfl
  have hlt : ltAt vs es v t g = if halfZ (rpt vs v) (farP vs es t) = halfZ (rpt vs v) (farP vs es g) then decide (0 < crossZ (rpt vs v) (farP vs es t) (farP vs es g)) else decide (halfZ (rpt vs v) (farP vs es t) = 0) := by
    unfold ltAt
    rw [ha.1]
    unfold aroundL
    have k1 := half_01 (rpt vs v) (farP vs es t)
    have k2 := half_01 (rpt vs v) (farP vs es g)
    by_cases q : halfZ (rpt vs v) (farP vs es t) = halfZ (rpt vs v) (farP vs es g)
    · rw [if_pos (by omega), if_pos q, decide_eq_decide]
      unfold turnZ
      rcases sg_cases (crossZ (rpt vs v) (farP vs es t) (farP vs es g)) with ⟨h1, h2⟩ | ⟨h1, h2⟩ | ⟨h1, h2⟩ <;> rw [h2] <;> omega
    · rw [if_neg (by omega), if_neg q, decide_eq_decide]; omega
  rw [hlt]
  unfold psi cR0 cR1 rgt
  rw [decide_eq_decide.2 (rgt_dir io it), decide_eq_decide.2 (rgt_dir io ig)]
  have k1 := half_dir (rpt vs v) (farP vs es t)
  have k2 := half_dir (rpt vs v) (farP vs es g)
  have k3 := half_01 (rpt vs v) (farP vs es t)
  have k4 := half_01 (rpt vs v) (farP vs es g)
  have hR : g = t → (RtI ((farP vs es t).x - (rpt vs v).x) ((farP vs es t).y - (rpt vs v).y) ↔ RtI ((farP vs es g).x - (rpt vs v).x) ((farP vs es g).y - (rpt vs v).y)) := fun h => by rw [(he h).2]
  have hH : g = t → halfZ (rpt vs v) (farP vs es t) = halfZ (rpt vs v) (farP vs es g) := fun h => by rw [(he h).2]
  rw [← hc] at hS
  refine psi_bool (A := RtI ((farP vs es t).x - (rpt vs v).x) ((farP vs es t).y - (rpt vs v).y)) (B := RtI ((farP vs es g).x - (rpt vs v).x) ((farP vs es g).y - (rpt vs v).y)) (E := g = t) (m := halfZ (rpt vs v) (farP vs es t)) (n := halfZ (rpt vs v) (farP vs es g)) k3 k4 ?_ h0 (fun h => (he h).1) hR hH
  rw [k1, k2]
  exact hS
/-! ### The heights of the halves' left sides -/
def FZ (vs : List Vt) (es : List Eg) (z : Eg → Bool) (h : Hf) : Bool :=
  if Xi (rpt vs (fromZ es h)) < Xi (farP vs es h) then upZ vs es z (egOf es h.e) (Xi (loP vs (egOf es h.e))) else upZ vs es z (egOf es h.e) (Xi (loP vs (egOf es h.e))) ^^ z (egOf es h.e)
theorem fz_out (H : RightP vs es) {z : Eg → Bool} (hz : ∀ v ∈ vs, bdZ es z v.id = false) {v : Vt} (hv : v ∈ vs) {t : Hf} (ht : t ∈ outU es v.id) :
    FZ vs es z t = ((passZ vs es z v.p ^^ xs (outU es v.id) fun g => cR0 vs es v.id g && z (egOf es g.e)) ^^ xs (outU es v.id) fun g => ltAt vs es v.id t g && z (egOf es g.e)) := by
  have hu := up_out H z hv ht
  obtain ⟨e, he, hee, hte, h3, h4, h5, h6, hr, hl⟩ := out_far H ht
  have vp : rpt vs v.id = v.p := (vert_pt H hv (by
    have hE := H.each e he
    rw [← h5]; cases t.b
    · exact hE.2.1.2.1
    · exact hE.2.1.2.2)).2 rfl
  have ie := edge_in H he
  have hF : FZ vs es z t = if rgt vs es v.id t then upZ vs es z (egOf es t.e) (Xi v.p) else upZ vs es z (egOf es t.e) (Xi v.p - 1) ^^ z (egOf es t.e) := by
    unfold FZ
    rw [(mem_outU.1 ht).2, ← hee]
    cases hR : rgt vs es v.id t with
    | true =>
      have h1 := hr hR
      unfold rgt at hR
      rw [if_pos (of_decide_eq_true hR), h1.1, vp]; rfl
    | false =>
      have h1 := hl hR
      unfold rgt at hR
      rw [if_neg (of_decide_eq_false hR)]
      have := congrArg Xi h1.1
      rw [vp] at this
      simp only [Bool.false_eq_true, if_false]
      rw [← this, up_all H hz he (k := Xi (hiP vs e) - 1) (by omega) (by omega)]
  rw [hF, hu]
  have hall : xs (outU es v.id) (fun g => z (egOf es g.e)) = false := by
    rw [xs_out H, ← hz v hv]
    unfold bdZ
    refine xs_congr fun g hg => ?_
    simp only [egOf_mem H hg]
    cases z g <;> simp
  have e1 : xs (outU es v.id) (fun g => psi vs es v.id t g && z (egOf es g.e)) = (xs (outU es v.id) (fun g => ltAt vs es v.id t g && z (egOf es g.e)) ^^ (xs (outU es v.id) (fun g => cR0 vs es v.id g && z (egOf es g.e)) ^^ (!cR1 vs es v.id t && xs (outU es v.id) (fun g => z (egOf es g.e))))) := by
    rw [← xs_and, ← xs_xor, ← xs_xor]
    refine xs_congr fun g hg => ?_
    rw [psi_lt H ht hg]
    cases z (egOf es g.e) <;> simp
  rw [e1, hall]
  generalize passZ vs es z v.p = a
  generalize xs (outU es v.id) (fun g => ltAt vs es v.id t g && z (egOf es g.e)) = b
  generalize xs (outU es v.id) (fun g => cR0 vs es v.id g && z (egOf es g.e)) = c
  cases a <;> cases b <;> cases c <;> simp
theorem xs_drop (z : Hf → Bool) {lt : Hf → Hf → Bool} : ∀ {l : List Hf}, l.Pairwise (fun a b => lt a b = true ∧ lt b a = false) → (∀ a ∈ l, lt a a = false) → ∀ (i : Nat) (x : Hf), l[i]? = some x → xs l (fun g => lt x g && z g) = xs (l.drop (i + 1)) z
  | [], _, _, i, x, h => by simp at h
  | a :: l, hp, hr, 0, x, h => by
    obtain rfl : a = x := by simpa using h
    have hp' := List.pairwise_cons.1 hp
    rw [xs_cons, hr a (by simp), xs_congr (g := z) fun b hb => by rw [(hp'.1 b hb).1, Bool.true_and]]
    simp
  | a :: l, hp, hr, i + 1, x, h => by
    have hp' := List.pairwise_cons.1 hp
    have hx : l[i]? = some x := by simpa using h
    rw [xs_cons, (hp'.1 x (List.mem_of_getElem? hx)).2, xs_drop z hp'.2 (fun b hb => hr b (by simp [hb])) i x hx]
    simp
theorem fz_prev (H : RightP vs es) {z : Eg → Bool} (hz : ∀ v ∈ vs, bdZ es z v.id = false) {v : Vt} (hv : v ∈ vs) {t : Hf} (ht : t ∈ outZ vs es v.id) : FZ vs es z (prevC (outZ vs es v.id) t) = (FZ vs es z t ^^ z (egOf es t.e)) := by
  have hS := out_spec H v.id
  have hn := outZ_nodup H v.id
  have T := tot_at H v.id
  have hm : ∀ x ∈ outZ vs es v.id, x ∈ halves es ∧ fromZ es x = v.id := fun x hx => (mem_outZ H).1 hx
  have hpw : (outZ vs es v.id).Pairwise (fun a b => ltAt vs es v.id a b = true ∧ ltAt vs es v.id b a = false) := by
    refine List.Pairwise.imp_of_mem ?_ hS.1
    intro a b ha hb h
    exact ⟨h, T.asym a b (hm a ha) (hm b hb) h⟩
  have hirr : ∀ a ∈ outZ vs es v.id, ltAt vs es v.id a a = false := fun a ha => by
    cases q : ltAt vs es v.id a a with
    | false => rfl
    | true => have := T.asym a a (hm a ha) (hm a ha) q; rw [q] at this; cases this
  have hF : ∀ (i : Nat) (x : Hf), (outZ vs es v.id)[i]? = some x → FZ vs es z x = ((passZ vs es z v.p ^^ xs (outU es v.id) fun g => cR0 vs es v.id g && z (egOf es g.e)) ^^ xs ((outZ vs es v.id).drop (i + 1)) fun g => z (egOf es g.e)) := by
    intro i x hx
    rw [fz_out H hz hv (hS.2.mem_iff.1 (List.mem_of_getElem? hx)), ← xs_drop (fun g => z (egOf es g.e)) hpw hirr i x hx, xs_perm hS.2]
  have hall : xs (outZ vs es v.id) (fun g => z (egOf es g.e)) = false := by
    rw [xs_perm hS.2, xs_out H, ← hz v hv]
    unfold bdZ
    refine xs_congr fun g hg => ?_
    simp only [egOf_mem H hg]
    cases z g <;> simp
  obtain ⟨i, hi⟩ := List.getElem?_of_mem ht
  have hil := (List.getElem?_eq_some_iff.1 hi).1
  rw [prevC_at hn hi]
  have hdrop : (outZ vs es v.id).drop i = t :: (outZ vs es v.id).drop (i + 1) := by
    rw [List.drop_eq_getElem_cons hil, (List.getElem?_eq_some_iff.1 hi).2]
  rw [hF i t hi]
  cases i with
  | zero =>
    rw [Nat.zero_add, Nat.mod_eq_of_lt (by omega), List.getElem?_eq_getElem (by omega : (outZ vs es v.id).length - 1 < _), Option.getD_some, hF _ _ (List.getElem?_eq_getElem (by omega : (outZ vs es v.id).length - 1 < _)), show (outZ vs es v.id).length - 1 + 1 = (outZ vs es v.id).length by omega, List.drop_length]
    rw [List.drop_zero] at hdrop
    rw [hdrop] at hall
    rw [xs_cons] at hall
    generalize (passZ vs es z v.p ^^ xs (outU es v.id) fun g => cR0 vs es v.id g && z (egOf es g.e)) = c
    simp only [Nat.zero_add, List.drop_one] at hall ⊢
    generalize xs (outZ vs es v.id).tail (fun g => z (egOf es g.e)) = y at *
    simp only [xs_nil, Bool.xor_false]
    generalize z (egOf es t.e) = u at *
    cases c <;> cases y <;> cases u <;> simp at hall ⊢
  | succ i =>
    rw [show i + 1 + (outZ vs es v.id).length - 1 = i + (outZ vs es v.id).length by omega, Nat.add_mod_right, Nat.mod_eq_of_lt (by omega), List.getElem?_eq_getElem (by omega : i < _), Option.getD_some, hF _ _ (List.getElem?_eq_getElem (by omega : i < _)), hdrop, xs_cons]
    generalize (passZ vs es z v.p ^^ xs (outU es v.id) fun g => cR0 vs es v.id g && z (egOf es g.e)) = c
    generalize xs (List.drop (i + 1 + 1) (outZ vs es v.id)) (fun g => z (egOf es g.e)) = y
    generalize z (egOf es t.e) = u
    cases c <;> cases y <;> cases u <;> rfl
theorem fz_twin (H : RightP vs es) (z : Eg → Bool) {h : Hf} (hm : h ∈ halves es) : (FZ vs es z h ^^ FZ vs es z (twinH h)) = z (egOf es h.e) := by
  have hf : fromZ es (twinH h) = toZ es h := rfl
  have ht : farP vs es (twinH h) = rpt vs (fromZ es h) := by unfold farP; rw [to_twin]
  have e := half_ends H hm
  have hne := rpt_ne H.verts e.2.2 e.1 e.2.1
  have hX : Xi (rpt vs (fromZ es h)) ≠ Xi (rpt vs (toZ es h)) := fun q => hne (Xi_inj (inP_b (rpt_in H.verts e.1)) (inP_b (rpt_in H.verts e.2.1)) q)
  have he : (twinH h).e = h.e := rfl
  unfold FZ
  rw [hf, ht, he]
  unfold farP
  generalize upZ vs es z (egOf es h.e) (Xi (loP vs (egOf es h.e))) = a
  generalize z (egOf es h.e) = b
  by_cases q : Xi (rpt vs (fromZ es h)) < Xi (rpt vs (toZ es h))
  · rw [if_pos q, if_neg (by omega)]; cases a <;> cases b <;> rfl
  · rw [if_neg q, if_pos (by omega)]; cases a <;> cases b <;> rfl
/-- A set of edges that has an even number at each vertex bounds a set of sides. -/
theorem fz_next (H : RightP vs es) {z : Eg → Bool} (hz : ∀ v ∈ vs, bdZ es z v.id = false) {h : Hf} (hm : h ∈ halves es) : FZ vs es z (nextZ vs es h) = FZ vs es z h := by
  have e := half_ends H hm
  obtain ⟨v, hv⟩ := Option.isSome_iff_exists.1 e.2.1
  have hid : v.id = toZ es h := by simpa using List.find?_some hv
  have hvm := List.mem_of_find?_eq_some hv
  unfold nextZ
  rw [← hid, fz_prev H hz hvm (by rw [hid]; exact twin_out H hm)]
  have := fz_twin H z hm
  have he : (twinH h).e = h.e := rfl
  rw [he]
  generalize FZ vs es z h = a at *
  generalize FZ vs es z (twinH h) = b at *
  generalize z (egOf es h.e) = c at *
  cases a <;> cases b <;> cases c <;> simp at this ⊢
end Go.Proofs.Ytlhmjhildlnokaa

/-
  The rings of a right plan: vertices, edges, rings and pieces go together. No walk stands here.
-/
namespace Go.Proofs.Ytlhmjhildlnokaa
set_option linter.unusedVariables false
set_option linter.unusedSimpArgs false
variable {vs : List Vt} {es : List Eg}
/-! ### The graph of a right plan, and its rings -/
def plc (vs : List Vt) (id : Int) : Nat := vs.findIdx fun v => v.id == id
def rix (rs : List (List Hf)) (h : Hf) : Nat := rs.findIdx fun r => decide (h ∈ r)
theorem plc_lt {id : Int} (h : (vs.find? fun v => v.id == id).isSome = true) : plc vs id < vs.length := by
  unfold plc
  rw [List.findIdx_lt_length]
  obtain ⟨v, hv⟩ := Option.isSome_iff_exists.1 h
  exact ⟨v, List.mem_of_find?_eq_some hv, by simpa using List.find?_some hv⟩
theorem plc_get {id : Int} (h : (vs.find? fun v => v.id == id).isSome = true) : ∃ v, vs[plc vs id]? = some v ∧ v.id = id := by
  have hl := plc_lt h
  refine ⟨vs[plc vs id], List.getElem?_eq_getElem hl, ?_⟩
  have : (fun v : Vt => v.id == id) (vs[plc vs id]) = true := List.findIdx_getElem (xs := vs) (p := fun v : Vt => v.id == id) (w := hl)
  exact by simpa using this
theorem plc_inj {a b : Int} (ha : (vs.find? fun v => v.id == a).isSome = true) (hb : (vs.find? fun v => v.id == b).isSome = true) : plc vs a = plc vs b ↔ a = b := by
  constructor
  · intro h
    obtain ⟨u, h1, h2⟩ := plc_get ha
    obtain ⟨v, h3, h4⟩ := plc_get hb
    rw [h, h3] at h1
    injection h1 with h1
    rw [← h2, ← h4, h1]
  · rintro rfl; rfl
theorem vert_there {v : Vt} (hv : v ∈ vs) : (vs.find? fun u => u.id == v.id).isSome = true := List.find?_isSome.2 ⟨v, hv, by simp⟩
theorem plc_at (H : RightP vs es) {i : Nat} {v : Vt} (h : vs[i]? = some v) : plc vs v.id = i := by
  obtain ⟨u, h1, h2⟩ := plc_get (vert_there (List.mem_of_getElem? h))
  have hp := (pairwise_get vs).1 H.verts.two
  rcases Nat.lt_trichotomy (plc vs v.id) i with q | q | q
  · have := (hp _ _ u v q h1 h).1; omega
  · exact q
  · have := (hp _ _ v u q h h1).1; omega
def rsZ (vs : List Vt) (es : List Eg) : List (List Hf) := ringsZ vs es
theorem rs_P (H : RightP vs es) : RingsP (nextZ vs es) (halves es) (halves es) (ringsZ vs es) := rings_of (next_one H) _ fun _ h => h
theorem rix_lt (H : RightP vs es) {h : Hf} (hm : h ∈ halves es) : rix (ringsZ vs es) h < (ringsZ vs es).length := by
  unfold rix
  rw [List.findIdx_lt_length]
  obtain ⟨r, hr, hh⟩ := List.mem_flatten.1 ((rs_P H).all h hm)
  exact ⟨r, hr, decide_eq_true hh⟩
theorem rix_mem (H : RightP vs es) {h : Hf} (hm : h ∈ halves es) : ∃ r, (ringsZ vs es)[rix (ringsZ vs es) h]? = some r ∧ h ∈ r := by
  have hl := rix_lt H hm
  refine ⟨(ringsZ vs es)[rix (ringsZ vs es) h], List.getElem?_eq_getElem hl, ?_⟩
  have : (fun r : List Hf => decide (h ∈ r)) ((ringsZ vs es)[rix (ringsZ vs es) h]) = true := List.findIdx_getElem (xs := ringsZ vs es) (p := fun r => decide (h ∈ r)) (w := hl)
  exact of_decide_eq_true this
theorem findIdx_same {α : Type} {p q : α → Bool} : ∀ {l : List α}, (∀ a ∈ l, p a = q a) → l.findIdx p = l.findIdx q
  | [], _ => rfl
  | a :: l, h => by
    rw [List.findIdx_cons, List.findIdx_cons, h a (by simp), findIdx_same fun b hb => h b (by simp [hb])]
theorem rix_next (H : RightP vs es) {h : Hf} (hm : h ∈ halves es) : rix (ringsZ vs es) (nextZ vs es h) = rix (ringsZ vs es) h := by
  unfold rix
  refine findIdx_same fun r hr => ?_
  obtain ⟨h0, P⟩ := (rs_P H).each r hr
  rw [decide_eq_decide]
  exact P.mem_iff (next_one H) hm
/-- In one ring: what doesn't turn from a half to the next one. -/
theorem ring_same {α : Type} (H : RightP vs es) {f : Hf → α} (hf : ∀ h ∈ halves es, f (nextZ vs es h) = f h) {r : List Hf} (hr : r ∈ ringsZ vs es) {g h : Hf} (hg : g ∈ r) (hh : h ∈ r) : f g = f h := by
  obtain ⟨h0, P⟩ := (rs_P H).each r hr
  have key : ∀ (k : Nat) (x : Hf), r[k]? = some x → f x = f h0 := by
    intro k
    induction k with
    | zero => intro x hx; rw [P.head] at hx; injection hx with hx; rw [hx]
    | succ k ih =>
      intro x hx
      have hk := (List.getElem?_eq_some_iff.1 hx).1
      have h1 : r[k]? = some r[k] := List.getElem?_eq_getElem (by omega)
      have h2 := P.next k _ h1
      rw [Nat.mod_eq_of_lt hk, hx] at h2
      injection h2 with h2
      rw [h2, hf _ (P.sub _ (List.getElem_mem (h := by omega)))]
      exact ih _ h1
  obtain ⟨i, hi⟩ := List.getElem?_of_mem hg
  obtain ⟨j, hj⟩ := List.getElem?_of_mem hh
  rw [key i g hi, key j h hj]
theorem rix_same {α : Type} (H : RightP vs es) {f : Hf → α} (hf : ∀ h ∈ halves es, f (nextZ vs es h) = f h) {g h : Hf} (hg : g ∈ halves es) (hh : h ∈ halves es) (e : rix (ringsZ vs es) g = rix (ringsZ vs es) h) : f g = f h := by
  obtain ⟨r, h1, h2⟩ := rix_mem H hg
  obtain ⟨s, h3, h4⟩ := rix_mem H hh
  rw [e, h3] at h1
  injection h1 with h1
  subst h1
  exact ring_same H hf (List.mem_of_getElem? h3) h2 h4
/-- Of a ring: of its first half. -/
def sideF (f : Hf → Bool) (rs : List (List Hf)) (i : Nat) : Bool := ((rs[i]?).bind fun r => r[0]?.map f).getD false
def grZ (vs : List Vt) (es : List Eg) : Gr Eg := ⟨es, fun e => plc vs e.a, fun e => plc vs e.b, fun e => rix (ringsZ vs es) ⟨e.id, false⟩, fun e => rix (ringsZ vs es) ⟨e.id, true⟩, vs.length, (ringsZ vs es).length⟩
theorem half_mem {e : Eg} (he : e ∈ es) (b : Bool) : (⟨e.id, b⟩ : Hf) ∈ halves es := mem_halves.2 ⟨e, he, rfl⟩
theorem bd_bdZ (H : RightP vs es) (z : Eg → Bool) {v : Vt} (hv : v ∈ vs) : (grZ vs es).bd z (plc vs v.id) = bdZ es z v.id := by
  unfold Gr.bd bdZ grZ
  refine xs_congr fun e he => ?_
  have hE := H.each e he
  simp only
  rw [decide_eq_decide.2 (plc_inj hE.2.1.2.1 (vert_there hv)), decide_eq_decide.2 (plc_inj hE.2.1.2.2 (vert_there hv))]
theorem map_prev_perm {l : List Hf} (hn : l.Nodup) : (l.map (prevC l)).Perm l := by
  have h1 : (l.map (prevC l)).Nodup := by
    rw [List.nodup_iff_pairwise_ne, List.pairwise_map]
    refine List.Pairwise.imp_of_mem ?_ (List.nodup_iff_pairwise_ne.1 hn)
    intro a b ha hb hne h
    exact hne (prevC_inj hn ha hb h)
  have h2 : ∀ x ∈ l.map (prevC l), x ∈ l := by
    intro x hx
    obtain ⟨y, hy, rfl⟩ := List.mem_map.1 hx
    exact prevC_mem hn hy
  rw [List.perm_ext_iff_of_nodup h1 hn]
  intro x
  exact ⟨h2 x, fun hx => nodup_full h1 h2 (by simp) x hx⟩
theorem next_twin (H : RightP vs es) {h : Hf} (hm : h ∈ halves es) : nextZ vs es (twinH h) = prevC (outZ vs es (fromZ es h)) h := by
  unfold nextZ; rw [to_twin, twin_twin]
theorem grZ_plane (H : RightP vs es) : (grZ vs es).Plane where
  nodup := H.two.imp fun {a b} h => by rintro rfl; omega
  pN e he := ⟨plc_lt (H.each e he).2.1.2.1, plc_lt (H.each e he).2.1.2.2⟩
  rR e he := ⟨rix_lt H (half_mem he _), rix_lt H (half_mem he _)⟩
  pot z hz := by
    have hz' : ∀ v ∈ vs, bdZ es z v.id = false := fun v hv => by rw [← bd_bdZ H z hv]; exact hz _
    have key : ∀ e ∈ es, ∀ b, sideF (FZ vs es z) (ringsZ vs es) (rix (ringsZ vs es) ⟨e.id, b⟩) = FZ vs es z ⟨e.id, b⟩ := by
      intro e he b
      obtain ⟨r, h1, h2⟩ := rix_mem H (half_mem he b)
      unfold sideF
      rw [h1]
      cases r with
      | nil => cases h2
      | cons g r => exact ring_same H (f := FZ vs es z) (fun h hh => fz_next H hz' hh) (List.mem_of_getElem? h1) (by simp) h2
    refine ⟨sideF (FZ vs es z) (ringsZ vs es), fun e he => ?_⟩
    have h3 := fz_twin H z (half_mem he false)
    show (sideF (FZ vs es z) (ringsZ vs es) (rix (ringsZ vs es) ⟨e.id, false⟩) ^^ sideF (FZ vs es z) (ringsZ vs es) (rix (ringsZ vs es) ⟨e.id, true⟩)) = _
    rw [key e he, key e he]
    rw [egOf_mem H he] at h3
    exact h3
  even f v := by
    by_cases hv : ∃ u ∈ vs, plc vs u.id = v
    · obtain ⟨u, hu, rfl⟩ := hv
      rw [bd_bdZ H _ hu]
      have e1 : bdZ es (fun e => f ((grZ vs es).ra e) ^^ f ((grZ vs es).rb e)) u.id = xs (outU es u.id) (fun h => f (rix (ringsZ vs es) h) ^^ f (rix (ringsZ vs es) (twinH h))) := by
        rw [xs_out H]
        unfold bdZ
        refine xs_congr fun g hg => ?_
        show ((f (rix (ringsZ vs es) ⟨g.id, false⟩) ^^ f (rix (ringsZ vs es) ⟨g.id, true⟩)) && _) = ((_ && (f (rix (ringsZ vs es) ⟨g.id, false⟩) ^^ f (rix (ringsZ vs es) ⟨g.id, true⟩))) ^^ (_ && (f (rix (ringsZ vs es) ⟨g.id, true⟩) ^^ f (rix (ringsZ vs es) ⟨g.id, false⟩))))
        generalize f (rix (ringsZ vs es) ⟨g.id, false⟩) = a
        generalize f (rix (ringsZ vs es) ⟨g.id, true⟩) = b
        cases a <;> cases b <;> simp
      have hS := out_spec H u.id
      have hn := outZ_nodup H u.id
      rw [e1, ← xs_perm hS.2, xs_xor]
      have e2 : xs (outZ vs es u.id) (fun h => f (rix (ringsZ vs es) (twinH h))) = xs (outZ vs es u.id) (fun h => f (rix (ringsZ vs es) (prevC (outZ vs es u.id) h))) := by
        refine xs_congr fun h hh => ?_
        obtain ⟨hm, hf⟩ := (mem_outZ H).1 hh
        rw [← rix_next H (twin_mem hm), next_twin H hm, hf]
      rw [e2, ← xs_map (outZ vs es u.id) (prevC (outZ vs es u.id)) (fun h => f (rix (ringsZ vs es) h)), xs_perm (map_prev_perm hn)]
      exact Bool.xor_self _
    · unfold Gr.bd
      rw [xs_congr (g := fun _ => false) fun e he => ?_, xs_false]
      have hE := H.each e he
      have no : ∀ x : Int, (vs.find? fun v => v.id == x).isSome = true → plc vs x ≠ v := by
        intro x hx hp
        obtain ⟨u, h1, h2⟩ := plc_get hx
        exact hv ⟨u, List.mem_of_getElem? h1, by rw [h2]; exact hp⟩
      have n1 : ¬ (grZ vs es).pa e = v := no _ hE.2.1.2.1
      have n2 : ¬ (grZ vs es).pb e = v := no _ hE.2.1.2.2
      rw [decide_eq_false n1, decide_eq_false n2]; simp
def primL (vs : List Vt) (es : List Eg) : List (Nat × Nat) := es.map fun e => (plc vs e.a, plc vs e.b)
def dualL (vs : List Vt) (es : List Eg) : List (Nat × Nat) := es.reverse.map fun e => (rix (ringsZ vs es) ⟨e.id, false⟩, rix (ringsZ vs es) ⟨e.id, true⟩)
def hasE (vs : List Vt) (es : List Eg) (i : Nat) : Bool := es.any fun e => plc vs e.a == i || plc vs e.b == i
theorem half_place (H : RightP vs es) {h : Hf} (hm : h ∈ halves es) : (plc vs (fromZ es h), plc vs (toZ es h)) ∈ primL vs es ∨ (plc vs (toZ es h), plc vs (fromZ es h)) ∈ primL vs es := by
  obtain ⟨e, he, hh⟩ := mem_halves.1 hm
  obtain ⟨x, b⟩ := h
  simp only at hh
  subst hh
  have e1 := egOf_mem H he
  unfold toZ fromZ twinH
  simp only [e1]
  cases b
  · exact .inl (List.mem_map.2 ⟨e, he, rfl⟩)
  · exact .inr (List.mem_map.2 ⟨e, he, rfl⟩)
theorem ring_conn (H : RightP vs es) {g h : Hf} (hg : g ∈ halves es) (hh : h ∈ halves es) (e : rix (ringsZ vs es) g = rix (ringsZ vs es) h) : Conn (primL vs es) (plc vs (fromZ es g)) (plc vs (fromZ es h)) := by
  have := rix_same H (f := fun x => labs (primL vs es) (plc vs (fromZ es x))) (fun x hx => by
    refine (labs_conn _ _ _).2 ?_
    rw [(next_mem H hx).2]
    exact .one (half_place H hx).symm) hg hh e
  exact (labs_conn _ _ _).1 this
theorem dual_prim (H : RightP vs es) {i j : Nat} (hc : Conn (dualL vs es) i j) : ∀ g ∈ halves es, ∀ h ∈ halves es, rix (ringsZ vs es) g = i → rix (ringsZ vs es) h = j → Conn (primL vs es) (plc vs (fromZ es g)) (plc vs (fromZ es h)) := by
  induction hc with
  | refl => intro g hg h hh h1 h2; exact ring_conn H hg hh (by rw [h1, h2])
  | step _ hl ih =>
    rename_i b c _
    intro g hg h hh h1 h2
    have : ∃ e ∈ es, ∃ k, rix (ringsZ vs es) ⟨e.id, k⟩ = b ∧ rix (ringsZ vs es) ⟨e.id, !k⟩ = c := by
      unfold dualL at hl
      simp only [List.mem_map, List.mem_reverse] at hl
      rcases hl with ⟨e, he, hp⟩ | ⟨e, he, hp⟩ <;> obtain ⟨h3, h4⟩ := Prod.mk.inj hp
      · exact ⟨e, he, false, h3, h4⟩
      · exact ⟨e, he, true, h4, h3⟩
    obtain ⟨e, he, k, h3, h4⟩ := this
    have c1 := ih g hg ⟨e.id, k⟩ (half_mem he k) h1 h3
    have c2 : Conn (primL vs es) (plc vs (fromZ es ⟨e.id, k⟩)) (plc vs (fromZ es ⟨e.id, !k⟩)) := .one (half_place H (half_mem he k))
    have c3 := ring_conn H (half_mem he (!k)) hh (by rw [h4, h2])
    exact (c1.trans c2).trans c3
theorem vert_dual (H : RightP vs es) {g h : Hf} (hg : g ∈ halves es) (hh : h ∈ halves es) (e : fromZ es g = fromZ es h) : Conn (dualL vs es) (rix (ringsZ vs es) g) (rix (ringsZ vs es) h) := by
  have hn := outZ_nodup H (fromZ es g)
  have link : ∀ x ∈ halves es, Conn (dualL vs es) (rix (ringsZ vs es) (twinH x)) (rix (ringsZ vs es) x) := by
    intro x hx
    obtain ⟨e, he, hxe⟩ := mem_halves.1 hx
    obtain ⟨y, b⟩ := x
    simp only at hxe
    subst hxe
    have hm : (rix (ringsZ vs es) ⟨e.id, false⟩, rix (ringsZ vs es) ⟨e.id, true⟩) ∈ dualL vs es := List.mem_map.2 ⟨e, by simpa using he, rfl⟩
    cases b
    · exact .one (.inr hm)
    · exact .one (.inl hm)
  have key : ∀ (k : Nat) (x : Hf), (outZ vs es (fromZ es g))[k]? = some x → ∀ y, (outZ vs es (fromZ es g))[0]? = some y → Conn (dualL vs es) (rix (ringsZ vs es) y) (rix (ringsZ vs es) x) := by
    intro k
    induction k with
    | zero => intro x hx y hy; rw [hx] at hy; injection hy with hy; subst hy; exact .refl
    | succ k ih =>
      intro x hx y hy
      have hk := (List.getElem?_eq_some_iff.1 hx).1
      have h1 : (outZ vs es (fromZ es g))[k]? = some (outZ vs es (fromZ es g))[k] := List.getElem?_eq_getElem (by omega)
      have c1 := ih _ h1 y hy
      obtain ⟨hm, hf⟩ := (mem_outZ H).1 (List.mem_of_getElem? hx)
      have hp : prevC (outZ vs es (fromZ es g)) x = (outZ vs es (fromZ es g))[k] := by
        rw [prevC_at hn hx, show k + 1 + (outZ vs es (fromZ es g)).length - 1 = k + (outZ vs es (fromZ es g)).length by omega, Nat.add_mod_right, Nat.mod_eq_of_lt (by omega), h1]; rfl
      have hr := rix_next H (twin_mem hm)
      rw [next_twin H hm, hf, hp] at hr
      rw [hr] at c1
      exact c1.trans (link x hm)
  obtain ⟨i, hi⟩ := List.getElem?_of_mem ((mem_outZ H).2 ⟨hg, rfl⟩)
  obtain ⟨j, hj⟩ := List.getElem?_of_mem ((mem_outZ H).2 ⟨hh, e.symm⟩)
  have hl : 0 < (outZ vs es (fromZ es g)).length := by have := (List.getElem?_eq_some_iff.1 hi).1; omega
  have h0 : (outZ vs es (fromZ es g))[0]? = some (outZ vs es (fromZ es g))[0] := List.getElem?_eq_getElem hl
  exact (key i g hi _ h0).symm.trans (key j h hj _ h0)
theorem prim_dual (H : RightP vs es) {a b : Nat} (hc : Conn (primL vs es) a b) : ∀ g ∈ halves es, ∀ h ∈ halves es, plc vs (fromZ es g) = a → plc vs (fromZ es h) = b → Conn (dualL vs es) (rix (ringsZ vs es) g) (rix (ringsZ vs es) h) := by
  have same : ∀ g ∈ halves es, ∀ h ∈ halves es, plc vs (fromZ es g) = plc vs (fromZ es h) → Conn (dualL vs es) (rix (ringsZ vs es) g) (rix (ringsZ vs es) h) := fun g hg h hh e =>
    vert_dual H hg hh ((plc_inj (half_ends H hg).1 (half_ends H hh).1).1 e)
  induction hc with
  | refl => intro g hg h hh h1 h2; exact same g hg h hh (by rw [h1, h2])
  | step _ hl ih =>
    rename_i b c _
    intro g hg h hh h1 h2
    have : ∃ e ∈ es, ∃ k, plc vs (fromZ es ⟨e.id, k⟩) = b ∧ plc vs (fromZ es ⟨e.id, !k⟩) = c := by
      unfold primL at hl
      simp only [List.mem_map] at hl
      rcases hl with ⟨e, he, hp⟩ | ⟨e, he, hp⟩ <;> obtain ⟨h3, h4⟩ := Prod.mk.inj hp <;> have e1 := egOf_mem H he
      · exact ⟨e, he, false, by unfold fromZ; simp only [e1]; exact h3, by unfold fromZ; simp only [e1]; exact h4⟩
      · exact ⟨e, he, true, by unfold fromZ; simp only [e1]; exact h4, by unfold fromZ; simp only [e1]; exact h3⟩
    obtain ⟨e, he, k, h3, h4⟩ := this
    have c1 := ih g hg ⟨e.id, k⟩ (half_mem he k) h1 h3
    have hm : (rix (ringsZ vs es) ⟨e.id, false⟩, rix (ringsZ vs es) ⟨e.id, true⟩) ∈ dualL vs es := List.mem_map.2 ⟨e, by simpa using he, rfl⟩
    have c2 : Conn (dualL vs es) (rix (ringsZ vs es) ⟨e.id, k⟩) (rix (ringsZ vs es) ⟨e.id, !k⟩) := by
      cases k
      · exact .one (.inl hm)
      · exact .one (.inr hm)
    exact (c1.trans c2).trans (same _ (half_mem he (!k)) h hh (by rw [h4, h2]))
theorem nodup_len' {α : Type} [DecidableEq α] {r S : List α} (hn : r.Nodup) (hs : ∀ x ∈ r, x ∈ S) : r.length ≤ S.length := by
  induction r generalizing S with
  | nil => simp
  | cons a r ih =>
    have ha : a ∈ S := hs a (by simp)
    have hn := List.nodup_cons.1 hn
    have := ih (S := S.erase a) hn.2 fun x hx => (List.mem_erase_of_ne (by rintro rfl; exact hn.1 hx)).2 (hs x (by simp [hx]))
    rw [List.length_erase_of_mem ha] at this
    have h0 : 0 < S.length := List.length_pos_of_mem ha
    simp only [List.length_cons]; omega
def headH (rs : List (List Hf)) (i : Nat) : Hf := ((rs[i]?).bind fun r => r[0]?).getD ⟨0, false⟩
theorem head_P (H : RightP vs es) {i : Nat} (hi : i < (ringsZ vs es).length) : headH (ringsZ vs es) i ∈ halves es ∧ rix (ringsZ vs es) (headH (ringsZ vs es) i) = i := by
  have hr : (ringsZ vs es)[i]? = some (ringsZ vs es)[i] := List.getElem?_eq_getElem hi
  obtain ⟨h0, P⟩ := (rs_P H).each _ (List.getElem_mem hi)
  have hh : headH (ringsZ vs es) i = h0 := by unfold headH; rw [hr]; simp [P.head]
  have hm0 : h0 ∈ (ringsZ vs es)[i] := List.mem_of_getElem? P.head
  have hm := P.sub _ hm0
  rw [hh]
  refine ⟨hm, ?_⟩
  obtain ⟨r, h1, h2⟩ := rix_mem H hm
  -- one ring alone
  have hn := (rs_P H).nodup
  refine Decidable.byContradiction fun hne => ?_
  have hp : (ringsZ vs es).Pairwise fun a b => ∀ x ∈ a, x ∉ b := by
    have : ∀ l : List (List Hf), l.flatten.Nodup → l.Pairwise fun a b => ∀ x ∈ a, x ∉ b := by
      intro l
      induction l with
      | nil => intro _; exact .nil
      | cons a l ih =>
        intro h
        rw [List.flatten_cons, List.nodup_append] at h
        refine .cons (fun b hb x hx hxb => ?_) (ih h.2.1)
        exact h.2.2 x hx x (List.mem_flatten.2 ⟨b, hb, hxb⟩) rfl
    exact this _ hn
  have hp := (pairwise_get _).1 hp
  rcases Nat.lt_trichotomy (rix (ringsZ vs es) h0) i with q | q | q
  · exact hp _ _ _ _ q h1 hr _ h2 hm0
  · exact hne q
  · exact hp _ _ _ _ q hr h1 _ hm0 h2
/-- Pieces, counted by rings. -/
theorem pieces_count (H : RightP vs es) : own (ringsZ vs es).length (labs (dualL vs es)) = ((List.range vs.length).filter fun i => labs (primL vs es) i == i && hasE vs es i).length := by
  let c : Nat → Nat := fun i => labs (primL vs es) (plc vs (fromZ es (headH (ringsZ vs es) i)))
  have hA : ∀ i ∈ (List.range (ringsZ vs es).length).filter (fun i => labs (dualL vs es) i == i), i < (ringsZ vs es).length ∧ labs (dualL vs es) i = i := by
    intro i hi
    simpa using List.mem_filter.1 hi
  have has : ∀ h ∈ halves es, hasE vs es (plc vs (fromZ es h)) = true := by
    intro h hm
    obtain ⟨e, he, hh⟩ := mem_halves.1 hm
    obtain ⟨x, b⟩ := h
    simp only at hh
    subst hh
    unfold hasE
    refine List.any_eq_true.2 ⟨e, he, ?_⟩
    unfold fromZ
    rw [egOf_mem H he]
    cases b <;> simp
  have hasC : ∀ a b, Conn (primL vs es) a b → hasE vs es a = true → hasE vs es b = true := by
    intro a b hc ha
    induction hc with
    | refl => exact ha
    | step _ hl _ =>
      unfold primL at hl
      simp only [List.mem_map] at hl
      unfold hasE
      rcases hl with ⟨e, he, hp⟩ | ⟨e, he, hp⟩ <;> obtain ⟨rfl, rfl⟩ := Prod.mk.inj hp <;> exact List.any_eq_true.2 ⟨e, he, by simp⟩
  have ltC : ∀ i, i < vs.length → labs (primL vs es) i < vs.length := fun i hi => Nat.lt_of_le_of_lt (labs_le _ _) hi
  have h1 : (((List.range (ringsZ vs es).length).filter (fun i => labs (dualL vs es) i == i)).map c).Nodup := by
    rw [List.nodup_iff_pairwise_ne, List.pairwise_map]
    refine List.Pairwise.imp_of_mem ?_ (List.nodup_iff_pairwise_ne.1 (List.nodup_range.filter _))
    intro i j hi hj hne h
    obtain ⟨i1, i2⟩ := hA i hi
    obtain ⟨j1, j2⟩ := hA j hj
    obtain ⟨p1, p2⟩ := head_P H i1
    obtain ⟨p3, p4⟩ := head_P H j1
    have := prim_dual H ((labs_conn _ _ _).1 h) _ p1 _ p3 rfl rfl
    rw [p2, p4] at this
    have := (labs_conn _ _ _).2 this
    rw [i2, j2] at this
    exact hne this
  have h2 : ∀ x ∈ ((List.range (ringsZ vs es).length).filter (fun i => labs (dualL vs es) i == i)).map c, x ∈ (List.range vs.length).filter fun i => labs (primL vs es) i == i && hasE vs es i := by
    intro x hx
    obtain ⟨i, hi, rfl⟩ := List.mem_map.1 hx
    obtain ⟨i1, i2⟩ := hA i hi
    obtain ⟨p1, p2⟩ := head_P H i1
    have hb := plc_lt (half_ends H p1).1
    refine List.mem_filter.2 ⟨List.mem_range.2 (ltC _ hb), ?_⟩
    rw [Bool.and_eq_true, beq_iff_eq]
    exact ⟨labs_labs _ _, hasC _ _ ((labs_conn _ _ _).1 (labs_labs _ _).symm) (has _ p1)⟩
  have h3 : ∀ x ∈ (List.range vs.length).filter (fun i => labs (primL vs es) i == i && hasE vs es i), x ∈ ((List.range (ringsZ vs es).length).filter (fun i => labs (dualL vs es) i == i)).map c := by
    intro x hx
    obtain ⟨x1, x2⟩ := List.mem_filter.1 hx
    rw [Bool.and_eq_true, beq_iff_eq] at x2
    have : ∃ h ∈ halves es, plc vs (fromZ es h) = x := by
      obtain ⟨e, he, hp⟩ := List.any_eq_true.1 x2.2
      rw [Bool.or_eq_true, beq_iff_eq, beq_iff_eq] at hp
      have e1 := egOf_mem H he
      rcases hp with hp | hp
      · exact ⟨⟨e.id, false⟩, half_mem he _, by unfold fromZ; rw [e1]; exact hp⟩
      · exact ⟨⟨e.id, true⟩, half_mem he _, by unfold fromZ; rw [e1]; exact hp⟩
    obtain ⟨h, hm, hp⟩ := this
    have hl := rix_lt H hm
    have hlt : labs (dualL vs es) (rix (ringsZ vs es) h) < (ringsZ vs es).length := Nat.lt_of_le_of_lt (labs_le _ _) hl
    refine List.mem_map.2 ⟨labs (dualL vs es) (rix (ringsZ vs es) h), List.mem_filter.2 ⟨List.mem_range.2 hlt, by rw [labs_labs]; simp⟩, ?_⟩
    obtain ⟨p1, p2⟩ := head_P H hlt
    have := dual_prim H ((labs_conn _ _ _).1 (labs_labs (dualL vs es) (rix (ringsZ vs es) h))) _ p1 _ hm p2 rfl
    rw [hp] at this
    have := (labs_conn _ _ _).2 this
    show labs (primL vs es) _ = x
    rw [this]; exact x2.1
  have l1 := nodup_len' h1 h2
  have l2 := nodup_len' (List.nodup_range.filter _) h3
  rw [List.length_map] at l1 l2
  unfold own
  omega
/-- Vertices that have edges, less the edges, plus the rings: twice the pieces. -/
theorem euler_law (H : RightP vs es) : ((List.range vs.length).filter fun i => hasE vs es i).length + (ringsZ vs es).length = es.length + 2 * ((List.range vs.length).filter fun i => hasE vs es i && (roundsF (primL vs es) vs.length i == i)).length := by
  have P := grZ_plane H
  have h := Gr.euler P
  have h1 : (grZ vs es).es.map (grZ vs es).prim = primL vs es := rfl
  have h2 : (grZ vs es).es.reverse.map (grZ vs es).dual = dualL vs es := rfl
  rw [h1, h2] at h
  have h3 : (grZ vs es).R = (ringsZ vs es).length := rfl
  have h4 : (grZ vs es).N = vs.length := rfl
  have h5 : (grZ vs es).es = es := rfl
  rw [h3, h4, h5, pieces_count H] at h
  have hN : ∀ p ∈ primL vs es, p.1 < vs.length ∧ p.2 < vs.length := fun p hp => by
    obtain ⟨e, he, rfl⟩ := List.mem_map.1 hp
    exact P.pN e he
  have e1 : ((List.range vs.length).filter fun i => hasE vs es i && (roundsF (primL vs es) vs.length i == i)) = (List.range vs.length).filter fun i => labs (primL vs es) i == i && hasE vs es i := by
    refine List.filter_congr fun i hi => ?_
    rw [rounds_labs hN (List.mem_range.1 hi), Bool.and_comm]
  rw [e1]
  -- those without edges are their own
  have alone : ∀ i, hasE vs es i = false → labs (primL vs es) i = i := by
    intro i hi
    have hc : Conn (primL vs es) i (labs (primL vs es) i) := (labs_conn _ _ _).1 (labs_labs _ _).symm
    have : ∀ j, Conn (primL vs es) i j → j = i := by
      intro j hj
      induction hj with
      | refl => rfl
      | step _ hl ih =>
        exfalso
        subst ih
        unfold primL at hl
        simp only [List.mem_map] at hl
        have hno := List.any_eq_false.1 hi
        rcases hl with ⟨e, he, hp⟩ | ⟨e, he, hp⟩ <;> obtain ⟨h6, h7⟩ := Prod.mk.inj hp
        · exact hno e he (by simp [h6])
        · exact hno e he (by simp [h7])
    exact this _ hc
  have cnt : ∀ l : List Nat, (l.filter fun i => labs (primL vs es) i == i).length + (l.filter fun i => hasE vs es i).length = l.length + (l.filter fun i => labs (primL vs es) i == i && hasE vs es i).length := by
    intro l
    induction l with
    | nil => rfl
    | cons i l ih =>
      simp only [List.filter_cons]
      cases q : hasE vs es i with
      | true => cases labs (primL vs es) i == i <;> simp <;> omega
      | false => rw [alone i q]; simp; omega
  have := cnt (List.range vs.length)
  rw [List.length_range] at this
  unfold own at h
  omega
end Go.Proofs.Ytlhmjhildlnokaa

/-
  Resources: a store into a slice of the call's own. Nothing of the program stands here.
-/
namespace Go.Proofs.Ytlhmjhildlnokaa
set_option linter.unusedVariables false
open Go.RowKit
variable {P : Program} {B : Nat} {w0 w w' : World} {l l' : List Res} {o : Oper} {a : Act} {Q : Exit → Act → World → Prop} {ty e : TypeId} {x y : Operand} {b off size n cap : Nat} {xs : List Value}
theorem setL_take (k : Nat) : ∀ (vs row : List Value) (off : Nat), (setL row off vs).take k = setL (row.take k) off vs
  | [], row, off => rfl
  | v :: r, row, off => by rw [setL, setL_take k r, List.take_set, setL]
theorem run_storeG {vs : List Value} {v : Value} (hv : v.cells.toList = vs) (H : Own B w0 w l) (hrep : Rep (.grow e size (.slice (some ⟨b, 0, none⟩) n cap) n xs) (.grow e size (.slice (some ⟨b, 0, none⟩) n cap) n (setL xs off vs)) l l') (hs : (sizeOf ty).run P w = .ok vs.length w) (hfit : off + vs.length ≤ xs.length) (h1 : vs.all (·.oneCell') = true) :
    ∃ w', (Instr.storeAt ty (.pointer (some ⟨b, off, none⟩)) v).run P w = .ok () w' ∧ Own B w0 w' l' := by
  have h := H.holds _ hrep.mem
  have hlt := H.lt _ hrep.mem b rfl
  have hxs := h.1
  rcases h.2 with ⟨h0, _⟩ | ⟨g, cap', cur, hv', hbg, hg, hnc, hcm, hcs, htake⟩
  · cases h0
  · injection hv' with e1 e2 e3
    injection e1 with e1
    injection e1 with e1
    subst e1 e3
    have hle : n * size ≤ cur.toList.length := by rw [Array.length_toList, hcs]; exact Nat.mul_le_mul_right _ hnc
    have hfit2 : off + vs.length ≤ cur.toList.length := by omega
    have h2 := run_storeCells_at P b off e vs 0 cur w hg (by simpa using hfit2) (fun u hu => List.all_eq_true.1 h1 u hu)
    refine ⟨w.setRow b (setL cur.toList off vs).toArray, ?_, ?_⟩
    · rw [setL_eq vs cur.toList off hfit2]
      have hl : v.cells.size = vs.length := by rw [← hv]; simp
      simp only [Nat.add_zero] at h2
      simp only [Instr.storeAt, Instr.sureAddr, storeVar, Sem.run_bind, Sem.run_pure, Result.andThen_ok, hs, hl, ne_eq, not_true_eq_false, if_false, hv]
      simpa using h2
    · have hsz : (w.setRow b (setL cur.toList off vs).toArray).heap.size = w.heap.size := by simp [World.setRow]
      have hk : ∀ k, k ≠ b → (w.setRow b (setL cur.toList off vs).toArray).heap[k]? = w.heap[k]? := fun k hk => by
        simp only [World.setRow, Array.getElem?_modify]
        rw [if_neg (fun e => hk e.symm)]
      have hlen : (setL cur.toList off vs).length = cur.size := by rw [setL_length vs _ off hfit2]; simp
      refine H.change hrep rfl rfl (.mk6 rfl rfl rfl (Nat.le_of_eq hsz.symm) (fun k hk' => hk k (by have := hlt.2 rfl; omega)) (Nat.le_refl _)) (fun k _ hne => hk k (fun e => hne (by rw [e]; rfl)))
        ⟨by rw [setL_length vs xs off hfit]; exact hxs, .inr ⟨b, cap, _, rfl, hbg, setRow_heap w b _ _ e (0, 0) hg, hnc, hcm, by simp [hlen, hcs], ?_⟩⟩ (fun k hk' => ?_) (fun k hk' => .inl hk')
      · rw [← htake]
        exact setL_take _ _ _ _
      · obtain rfl : b = k := by injection hk'
        rw [hsz]; exact hlt.1
theorem o_storeG {K : Act → World → Prop} {vs : List Value} (ho : o.op = .store ty x y) (hx : a.eval x = .pointer (some ⟨b, off, none⟩)) (H : Own B w0 w l) (hv : (a.eval y).cells.toList = vs)
    (hrep : Rep (.grow e size (.slice (some ⟨b, 0, none⟩) n cap) n xs) (.grow e size (.slice (some ⟨b, 0, none⟩) n cap) n (setL xs off vs)) l l') (hs : ∀ w, (sizeOf ty).run P w = .ok vs.length w) (hfit : off + vs.length ≤ xs.length) (h1 : vs.all (·.oneCell') = true)
    (hk : ∀ w', Own B w0 w' l' → K (a.put o.dst undef) w') : o.wp P a w K Q := by
  obtain ⟨w', h2, h3⟩ := run_storeG (P := P) hv H hrep (hs w) hfit h1
  unfold Oper.wp execOp
  simp only [ho, hx, Sem.run_bind, h2]
  exact hk _ h3
end Go.Proofs.Ytlhmjhildlnokaa

/-
  The walk of the document's Pieces.
-/
namespace Go.Proofs.Ytlhmjhildlnokaa
set_option linter.unusedVariables false
set_option linter.unusedSimpArgs false
open Go.RowKit

theorem infoIn : (Try.prog.info? 3).map (fun i => (i.zero, i.size, i.bytes)) = some (some (.int .i64 0), 1, 8) := by kernel_rfl
/-- Labels as cells. -/
def lbR (N : Nat) (f : Nat → Nat) : List Value := (List.range N).map fun i => .int .i64 (f i : Int)
theorem lbR_len (N : Nat) (f : Nat → Nat) : (lbR N f).length = N := by simp [lbR]
theorem lbR_at {N i : Nat} (f : Nat → Nat) (h : i < N) : ((lbR N f).drop i).take 1 = [.int .i64 (f i : Int)] := by
  have : (lbR N f)[i]? = some (.int .i64 (f i : Int)) := by simp [lbR, h]
  obtain ⟨h1, h2⟩ := List.getElem?_eq_some_iff.1 this
  rw [List.drop_eq_getElem_cons h1, h2]; rfl
theorem lbR_one (N : Nat) (f : Nat → Nat) : lbR (N + 1) f = lbR N f ++ [.int .i64 (f N : Int)] := by simp [lbR, List.range_succ]
theorem lbR_set {N i : Nat} (f g : Nat → Nat) (h : i < N) (hg : ∀ j, g j = if j = i then g i else f j) : (lbR N f).set i (.int .i64 (g i : Int)) = lbR N g := by
  apply List.ext_getElem?
  intro j
  rw [List.getElem?_set]
  simp only [lbR, List.getElem?_map, List.length_map, List.length_range]
  by_cases hj : j < N
  · rw [List.getElem?_range hj]
    by_cases q : i = j
    · subst q; simp [h]
    · rw [if_neg q]
      simp only [Option.map_some]
      rw [hg j, if_neg (fun e => q e.symm)]
  · have e1 : (List.range N)[j]? = none := by simp; omega
    rw [e1]
    have : i ≠ j := by omega
    simp [this]
theorem plc_find {vs : List Vt} {id : Int} (h : (vs.find? fun v => v.id == id).isSome = true) : (vs.findIdx? fun v => v.id == id) = some (plc vs id) := by
  rw [List.findIdx?_eq_guard_findIdx_lt]
  have := plc_lt h
  unfold plc at this ⊢
  simp [Option.guard, this]
def RetL (F : Nat → Prop) (w : World) (N : Nat) (f : Nat → Nat) (e : Ending) (w' : World) : Prop :=
  ∃ A c, e = .returned (.slice A N c) ∧ Below w.heap.size w w' ∧ Sl F w' A (lbR N f) ∧ N ≤ c ∧ c ≤ maxLen
theorem relax_b {l : Nat → Nat} {a b : Nat} (h : l a < l b) (j : Nat) : relax l (a, b) j = if j = b then l a else l j := by
  unfold relax
  simp only
  by_cases h1 : j = b
  · subst h1; simp; omega
  · by_cases h2 : j = a
    · subst h2; simp [h1]; omega
    · simp [h1, h2]
theorem relax_a {l : Nat → Nat} {a b : Nat} (h : l b < l a) (j : Nat) : relax l (a, b) j = if j = a then l b else l j := by
  unfold relax
  simp only
  by_cases h1 : j = a
  · subst h1; simp; omega
  · by_cases h2 : j = b
    · subst h2; simp [h1]; omega
    · simp [h1, h2]
theorem relax_e {l : Nat → Nat} {a b : Nat} (h : l b = l a) : relax l (a, b) = l := by
  funext j
  unfold relax
  simp only
  by_cases h1 : j = a
  · subst h1; simp; omega
  · by_cases h2 : j = b
    · subst h2; simp [h1]; omega
    · simp [h1, h2]
set_option maxRecDepth 100000 in
set_option maxHeartbeats 16000000 in
theorem pieces_any (vs : List Vt) (es : List Eg) (A A2 : Option Addr) (n m c c2 : Nat) (F : Nat → Prop) (w : World) (hR0 : RightP vs es) (hn : n = vs.length) (hm : m = es.length) (hs : Sl F w A (vR vs)) (hs2 : Sl F w A2 (eR es)) (hF : ∀ k, F k → k < w.heap.size) :
    Calls Try.prog 26 #[.agg #[.slice A n c, .slice A2 m c2]] w (RetL F w n (roundsF (primL vs es) n)) := by
  obtain ⟨b0, o0, H1, f0⟩ := (Own.start w).addSl (hs.ro (by rfl))
  obtain ⟨b9, o9, H, f9⟩ := H1.addSl (hs2.ro (by rfl))
  clear hs hs2 H1
  have hnl : n ≤ 512 := by rw [hn]; exact hR0.few.1
  have hml : m ≤ 1024 := by rw [hm]; exact hR0.few.2
  have h1 : ∀ (F : Nat → Prop) (id : Int) (w : World), Sl F w A (vR vs) → (vs.find? fun v => v.id == id).isSome = true → Calls Try.prog 49 #[.agg #[.slice A n c, .slice A2 m c2], .int .i64 id] w fun e w' => e = .returned (.int .i64 (ixZ (some (plc vs id)))) ∧ Below w.heap.size w w' := fun F id w h hf => by
    have := refVertex_any vs A A2 n m c c2 F id w hn h (by omega)
    rw [plc_find hf] at this
    exact this
  simp only [ixZ] at h1
  have HR := Lib.hid hR0
  have HF := Lib.hid hF
  have HN := Lib.hid hn
  have HM := Lib.hid hm
  clear hn hm hR0 hF
  have H := H.grow_nil 3 1
  go_enter Try.func26, Try.ntmps26
  have tk0 : True := trivial
  go_wp2_with (guard_target =~ wpList _ _ _ (_ :: _) _ _; ((guard_target =~ wpList _ _ _ (Oper.mk _ (.box _ _) _ _ _ _ :: _) _ _; refine BigFrame.wpList_want rfl (fun K hK => ?_); refine o_box rfl H rfl (fun w3 b2 he H2 => hK _ _ ?_)); clear hK K he; clear H; (try clear w2); revert w3; intro w2 H; simp [Act.eval, Value.cells, setL, List.getD] at H; (clear tk0; rename Nat => b1)); simp only [Act.put, List.setIfInBounds_toArray, List.set_cons_succ, List.set_cons_zero])
  go_loopg [4, 3] n (fun k i v wr => k ≤ n ∧ i = .int .i64 ((n - k : Nat) : Int) ∧ Own w.heap.size w wr [.grow 3 1 v (n - k) (lbR (n - k) id), .cells b1 [.slice A n c, .slice A2 m c2], .rd A2 b9 o9 (eR es), .rd A b0 o0 (vR vs)])
  case atStart => exact ⟨Nat.le_refl _, by simp, by rw [Nat.sub_self]; exact H.swap⟩
  case round =>
    clear H
    obtain ⟨hk, rfl, H⟩ := hrel
    by_cases hlt : 0 < gk
    · obtain ⟨j, hj⟩ : ∃ j, n - gk = j := ⟨_, rfl⟩
      have hjl : j < n := by omega
      rw [hj] at H ⊢
      have hX := lbR_one j id
      generalize lbR j id = X at H hX
      have HX := Lib.hid hX
      have HJ := Lib.hid hj
      clear hX hj
      go_wp2_with (guard_target =~ wpList _ _ _ (_ :: _) _ _; (first | (guard_target =~ wpList _ _ _ (Oper.mk _ (.call { callee := .builtin .append, args := _, argTypes := _ }) _ _ _ _ :: _) _ _; refine BigFrame.wpList_want rfl (fun K hK => ?_); refine o_append (row := ?_) (n := ?_) (xs := ?_) (l' := ?_) infoIn rfl rfl rfl H ?_ rfl ?_ ?_ (by kernel_rfl) rfl (by decide) ?_ ?_ ?_ (fun v2 w3 H2 hn => hK _ _ ?_); rotate_left 4; (repeat first | exact .head _ | apply List.Mem.tail); (focus (simp; done)); (focus (intro _; (exact r1))); exact rfl; exact (by unfold maxLen; omega); exact (by omega); clear hK K hn; clear H; (try clear w2); revert w3; intro w2 H; simp only [List.take_succ_cons, List.take_zero, Nat.one_mul] at H; (obtain ⟨A7, c7, rfl⟩ := H.growForm (v := v2) (by repeat first | exact .head _ | apply List.Mem.tail))) | (guard_target =~ wpList _ _ _ (Oper.mk _ (.load _ _) _ _ _ _ :: _) _ _; refine BigFrame.wpList_want rfl (fun K hK => ?_); (refine o_loadC (v := ?_) (row := ?_) rfl rfl H ?_ ?_ ?_ (hK _ _ ?_); rotate_left 2; (repeat first | exact .head _ | apply List.Mem.tail); (exact rfl); (focus (intro _; simp; done))); clear hK K) | ((guard_target =~ wpList _ _ _ (Oper.mk _ (.buildSlice _ _ _) _ _ _ _ :: _) _ _; refine BigFrame.wpList_want rfl (fun K hK => ?_); refine o_buildSlice (C := ?_) (E := ?_) rfl rfl H ?_ rfl (fun w3 b2 he H2 => hK _ _ ?_); rotate_left 2; (focus (intro _; simp [go_sem, Instr.buildSlice]; with_reducible exact rfl))); clear hK K he; clear H; (try clear w2); revert w3; intro w2 H; simp [Act.eval, Value.cells, setL, List.getD] at H)); simp only [Act.put, List.setIfInBounds_toArray, List.set_cons_succ, List.set_cons_zero])
      go_roundg (gk - 1)
      case rel =>
        refine ⟨by omega, by have := HJ.out; congr 1; omega, ?_⟩
        rw [show n - (gk - 1) = j + 1 by have := HJ.out; omega, HX.out]
        exact H.tail
      case measure => omega
    · obtain rfl : gk = 0 := by omega
      rw [Nat.sub_zero] at H
      obtain ⟨Al, cl, rfl⟩ := H.growForm m0
      go_wp2_with (guard_target =~ wpList _ _ _ (_ :: _) _ _; (guard_target =~ wpList _ _ _ (Oper.mk _ (.load _ _) _ _ _ _ :: _) _ _; refine BigFrame.wpList_want rfl (fun K hK => ?_); (refine o_loadC (v := ?_) (row := ?_) rfl rfl H ?_ ?_ ?_ (hK _ _ ?_); rotate_left 2; (repeat first | exact .head _ | apply List.Mem.tail); (exact rfl); (focus (intro _; simp; done))); clear hK K); simp only [Act.put, List.setIfInBounds_toArray, List.set_cons_succ, List.set_cons_zero])
      go_loopg [5] n (fun k i wr => k ≤ n ∧ i = .int .i64 ((n - k : Nat) : Int) ∧ Own w.heap.size w wr [.grow 3 1 (.slice Al n cl) n (lbR n (roundsF (primL vs es) (n - k))), .cells b1 [.slice A n c, .slice A2 m c2], .rd A2 b9 o9 (eR es), .rd A b0 o0 (vR vs)])
      case atStart => exact ⟨Nat.le_refl _, by simp, by rw [Nat.sub_self]; exact H⟩
      case round =>
        clear H
        obtain ⟨hk, rfl, H⟩ := hrel
        by_cases hlt : 0 < gk
        · obtain ⟨j, hj⟩ : ∃ j, n - gk = j := ⟨_, rfl⟩
          have hjl : j < n := by omega
          rw [hj] at H ⊢
          obtain ⟨bl, cl', he⟩ := H.growSome m0 (by omega) (by decide)
          injection he with hA hx2 hc9
          subst hA
          clear hx2 hc9
          have HJ := Lib.hid hj
          have ⟨gkA, hgA⟩ : ∃ g, g = gk := ⟨_, rfl⟩
          clear hj
          go_wp2_with (guard_target =~ wpList _ _ _ (_ :: _) _ _; (guard_target =~ wpList _ _ _ (Oper.mk _ (.load _ _) _ _ _ _ :: _) _ _; refine BigFrame.wpList_want rfl (fun K hK => ?_); (refine o_loadC (v := ?_) (row := ?_) rfl rfl H ?_ ?_ ?_ (hK _ _ ?_); rotate_left 2; (repeat first | exact .head _ | apply List.Mem.tail); (exact rfl); (focus (intro _; simp; done))); clear hK K); simp only [Act.put, List.setIfInBounds_toArray, List.set_cons_succ, List.set_cons_zero])
          go_loopg [6] m (fun k i wr => k ≤ m ∧ i = .int .i64 ((m - k : Nat) : Int) ∧ Own w.heap.size w wr [.grow 3 1 (.slice (some ⟨bl, 0, none⟩) n cl) n (lbR n ((primL vs (es.take (m - k))).foldl relax (roundsF (primL vs es) j))), .cells b1 [.slice A n c, .slice A2 m c2], .rd A2 b9 o9 (eR es), .rd A b0 o0 (vR vs)])
          case atStart => exact ⟨Nat.le_refl _, by simp, by rw [Nat.sub_self]; exact H⟩
          case round =>
            clear H
            obtain ⟨hk, rfl, H⟩ := hrel
            by_cases hlt : 0 < gk
            · obtain ⟨q, hq⟩ : ∃ q, m - gk = q := ⟨_, rfl⟩
              have hql : q < m := by omega
              rw [hq] at H ⊢
              obtain ⟨i, x, y, he⟩ := eg_at es (by have := HM.out; omega : q < es.length)
              obtain rfl := H.rdAddr m2 (eR_pos he)
              have hpa := at_ea (A := some ⟨b9, o9, none⟩) (b := b9) (off := o9) he
              have hpb := at_eb (A := some ⟨b9, o9, none⟩) (b := b9) (off := o9) he
              have hst : (primL vs (es.take (q + 1))).foldl relax (roundsF (primL vs es) j) = relax ((primL vs (es.take q)).foldl relax (roundsF (primL vs es) j)) (plc vs x, plc vs y) := by
                rw [List.take_add_one, he]; simp [primL]
              generalize (primL vs (es.take q)).foldl relax (roundsF (primL vs es) j) = l at H hst
              have hE := (HR.out.each _ (List.mem_of_getElem? he)).2.1
              have ha0 := plc_lt hE.2.1
              have hb0 := plc_lt hE.2.2
              rw [← HN.out] at ha0 hb0
              have h2 := fun F w h => h1 F x w h hE.2.1
              have h3 := fun F w h => h1 F y w h hE.2.2
              generalize plc vs x = pa at hst ha0 h2
              generalize plc vs y = pb at hst hb0 h3
              have p1 := at_grow (e := 3) (size := 1) (n := n) (b := bl) (c := cl) (o := pa) (cs := [.int .i64 (l pa : Int)]) (lbR_at l ha0)
              have p2 := at_grow (e := 3) (size := 1) (n := n) (b := bl) (c := cl) (o := pb) (cs := [.int .i64 (l pb : Int)]) (lbR_at l hb0)
              have hfa : pa + 1 ≤ (lbR n l).length := by rw [lbR_len]; exact ha0
              have hfb : pb + 1 ≤ (lbR n l).length := by rw [lbR_len]; exact hb0
              have HST := Lib.hid hst
              have HQ := Lib.hid hq
              clear he hq hst hE
              rcases (by omega : l pa < l pb ∨ l pb < l pa ∨ l pa = l pb) with hc | hc | hc
              · have hset := lbR_set (N := n) l (relax l (pa, pb)) hb0 (fun j => by rw [relax_b hc, relax_b hc]; simp)
                rw [relax_b hc pb, if_pos rfl] at hset
                have q1 : decide ((l pa : Int) < (l pb : Int)) = true := decide_eq_true (by omega)
                have q2 : decide ((l pa : Int) < (l pa : Int)) = false := decide_eq_false (by omega)
                have hab : pa ≠ pb := by rintro rfl; omega
                have p3 := at_grow (e := 3) (size := 1) (n := n) (b := bl) (c := cl) (o := pa) (cs := [.int .i64 (l pa : Int)]) (xs := (lbR n l).set pb (.int .i64 (l pa : Int))) (by
                  rw [hset]; have := lbR_at (relax l (pa, pb)) ha0; rwa [relax_b hc pa, if_neg hab] at this)
                have p4 := at_grow (e := 3) (size := 1) (n := n) (b := bl) (c := cl) (o := pb) (cs := [.int .i64 (l pa : Int)]) (xs := (lbR n l).set pb (.int .i64 (l pa : Int))) (by
                  rw [hset]; have := lbR_at (relax l (pa, pb)) hb0; rwa [relax_b hc pb, if_pos rfl] at this)
                have HSET := Lib.hid hset
                clear hset hc hab
                generalize hla : (l pa : Int) = la at *
                generalize hlb : (l pb : Int) = lb at *
                generalize hLB : lbR n l = LB at *
                have HP3 := Lib.hid p3
                have HP4 := Lib.hid p4
                clear p3 p4
                go_wp2_with (first
                  | (guard_target =~ Code.wp _ (Code.region 15 _ true) _ _ _; have p3 := HP3.out; have p4 := HP4.out; clear p1 p2 HP3 HP4)
                  | (guard_target =~ Code.wp _ (Code.region 12 _ true) _ _ _; refine region_treeC0 12 (G := True) (.q 0 (.q 1 (.q 2 (.q 3 (.q 4 (.q 5 (.q 6 (.q 7 (.q 8 (.q 9 (.q 10 (.q 11 (.q 12 (.q 13 (.q 14 (.q 15 (.q 16 (.q 17 .nil)))))))))))))))))) (by kernel_rfl) (by intro c a d v w h; cases d <;> exact h) (by kernel_rfl) H ⟨trivial⟩ (fun _ w3 H2 => ?_); (clear H; (try clear w2); revert w3; intro w2 H))
                  | (guard_target =~ Code.wp _ (Code.region 13 _ true) _ _ _; refine region_treeC0 13 (G := True) (.q 0 (.q 1 (.q 2 (.q 3 (.q 4 (.q 5 (.q 6 (.q 7 (.q 8 .nil))))))))) (by kernel_rfl) (by intro c a d v w h; cases d <;> exact h) (by kernel_rfl) H ⟨trivial⟩ (fun _ w3 H2 => ?_); (clear H; (try clear w2); revert w3; intro w2 H))
                  | (guard_target =~ Code.wp _ (Code.region 15 _ true) _ _ _; refine region_treeC0 15 (G := True) (.q 0 (.q 1 (.q 2 (.q 3 (.q 4 (.q 5 (.q 6 (.q 7 (.q 8 .nil))))))))) (by kernel_rfl) (by intro c a d v w h; cases d <;> exact h) (by kernel_rfl) H ⟨trivial⟩ (fun _ w3 H2 => ?_); (clear H; (try clear w2); revert w3; intro w2 H))
                  | (guard_target =~ wpList _ _ _ (_ :: _) _ _; (first | (guard_target =~ wpList _ _ _ (Oper.mk _ (.load _ _) _ _ _ _ :: _) _ _; refine BigFrame.wpList_want rfl (fun K hK => ?_); (first | (refine o_load (v := ?_) (r := ?_) rfl rfl H ?_ ?_ ?_ (hK _ _ ?_); rotate_left 2; (with_reducible assumption); (repeat first | exact .head _ | apply List.Mem.tail); (focus (intro _; simp; done))) | (refine o_loadC (v := ?_) (row := ?_) rfl rfl H ?_ ?_ ?_ (hK _ _ ?_); rotate_left 2; (repeat first | exact .head _ | apply List.Mem.tail); (exact rfl); (focus (intro _; simp; done)))); clear hK K) | (guard_target =~ wpList _ _ _ (Oper.mk _ (.store _ _ _) _ _ _ _ :: _) _ _; refine BigFrame.wpList_want rfl (fun K hK => ?_); (refine o_storeG (e := ?_) (size := ?_) (n := ?_) (cap := ?_) (xs := ?_) (l' := ?_) rfl rfl H rfl ?_ ?_ ?_ ?_ (fun w3 H2 => hK _ _ ?_); rotate_left 6; (exact r0); (focus (intro _; simp [Act.eval, Value.cells]; done)); (focus ((try simp [Act.eval, Value.cells]); omega)); (exact rfl); clear hK K; clear H; (try clear w2); revert w3; intro w2 H; simp [Act.eval, Value.cells, setL, List.getD] at H))); simp only [Act.put, List.setIfInBounds_toArray, List.set_cons_succ, List.set_cons_zero])
                  | (guard_target =~ wpTreeC _ _ _ _ _ _ _; first | (guard_target =~ wpTreeC _ _ _ (Tr.e _ Tr.nil) _ _ _; refine treeC_last (by decide +kernel) H rfl rfl (fun w3 H2 K hK => ?_); clear H; (try clear w2); (revert w3; intro w2 H); simp only [List.getElem_toArray, List.getElem_cons_succ, List.getElem_cons_zero]; (first | fail); simp only [Act.put, List.setIfInBounds_toArray, List.set_cons_succ, List.set_cons_zero]) | (guard_target =~ wpTreeC _ _ _ (Tr.q _ _) _ _ _; first | (refine treeC_quiet ⟨_, H, by repeat first | exact .here | apply Suf.there⟩ rfl rfl rfl (fun K hK => ?_); simp only [List.getElem_toArray, List.getElem_cons_succ, List.getElem_cons_zero]; first | (guard_target =~ Oper.quiet _ (Oper.mk _ (.load _ _) _ _ _ _) _ _ _; (first | (refine q_load (v := ?_) (r := ?_) rfl rfl ?_ ?_ ?_ (hK _ ?_); rotate_left 2; (with_reducible assumption); (repeat first | exact .head _ | apply List.Mem.tail); (focus (intro _; simp; done))) | (refine q_loadC (v := ?_) (row := ?_) rfl rfl ?_ ?_ ?_ (hK _ ?_); rotate_left 2; (repeat first | exact .head _ | apply List.Mem.tail); (exact rfl); (focus (intro _; simp; done))) | (refine q_loadNC (row := ?_) rfl rfl ?_ ?_ ?_ (hK _ ?_); rotate_left 1; (repeat first | exact .head _ | apply List.Mem.tail); (focus (intro _; simp; done)); (focus (intro _; simp; done)))); clear hK K; simp only [Act.put, List.setIfInBounds_toArray, List.set_cons_succ, List.set_cons_zero]) | (go_big_quiet_op; (try refine ⟨_, fun _ _ => rfl, ?_⟩); refine hK _ ?_; clear hK K)) | (refine treeC_call (v := ?_) ⟨_, H, by repeat first | exact .here | apply Suf.there⟩ rfl rfl (fun w3 H K hK => ?_) ?_; rotate_left 1; (focus (simp only [List.getElem_toArray, List.getElem_cons_succ, List.getElem_cons_zero]; first | (go_big_op; first | exact hK _ (Ext.refl _) | (go_at_call 49; (with_reducible refine (h2 _ _ (by exact H.giveRd m3 f0)).mono ?_); rintro e w3 ⟨rfl, hb⟩; dsimp only; first | exact hK _ hb | exact hK _ (Ext.refl _)) | (go_at_call 49; (with_reducible refine (h3 _ _ (by exact H.giveRd m3 f0)).mono ?_); rintro e w3 ⟨rfl, hb⟩; dsimp only; first | exact hK _ hb | exact hK _ (Ext.refl _))))); simp only [List.getElem_toArray, List.getElem_cons_succ, List.getElem_cons_zero, Act.put, List.setIfInBounds_toArray, List.set_cons_succ, List.set_cons_zero]) | (refine treeC_skip ⟨_, H, by repeat first | exact .here | apply Suf.there⟩ rfl rfl ?_; simp only [List.getElem_toArray, List.getElem_cons_succ, List.getElem_cons_zero, Act.put, List.setIfInBounds_toArray, List.set_cons_succ, List.set_cons_zero])) | (guard_target =~ wpTreeC _ _ _ (Tr.both _ _) _ _ _; refine treeC_both ?_ ?_) | (guard_target =~ wpTreeC _ _ _ (Tr.e _ _) _ _ _; first | (refine treeC_one H rfl rfl (fun w3 H2 K hK => ?_); clear H; (try clear w2); (revert w3; intro w2 H); simp only [List.getElem_toArray, List.getElem_cons_succ, List.getElem_cons_zero]; first | ((first | fail); simp only [Act.put, List.setIfInBounds_toArray, List.set_cons_succ, List.set_cons_zero]) | (go_big_op; (first | fail))) | (refine treeC_one_skip (fun w3 hx => ⟨_, H.ext hx, by repeat first | exact .here | apply Suf.there⟩) rfl rfl (fun w3 hx => ?_); replace H := H.ext hx; clear hx; (try clear w2); revert w3; intro w2 H; simp only [List.getElem_toArray, List.getElem_cons_succ, List.getElem_cons_zero, Act.put, List.setIfInBounds_toArray, List.set_cons_succ, List.set_cons_zero])) | (guard_target =~ wpTreeC _ _ _ Tr.nil _ _ _; refine treeC_nil H (fun w3 H2 => ?_); clear H; (try clear w2); revert w3; intro w2 H)))
                go_roundg (gk - 1)
                case rel =>
                  refine ⟨by omega, by have := HQ.out; congr 1; omega, ?_⟩
                  rw [show m - (gk - 1) = q + 1 by have := HQ.out; omega, HST.out, ← HSET.out]
                  exact H
                case measure => omega
              · have hset := lbR_set (N := n) l (relax l (pa, pb)) ha0 (fun j => by rw [relax_a hc, relax_a hc]; simp)
                rw [relax_a hc pa, if_pos rfl] at hset
                have q1 : decide ((l pa : Int) < (l pb : Int)) = false := decide_eq_false (by omega)
                have q2 : decide ((l pb : Int) < (l pa : Int)) = true := decide_eq_true (by omega)
                have HSET := Lib.hid hset
                clear hset hc
                generalize hla : (l pa : Int) = la at *
                generalize hlb : (l pb : Int) = lb at *
                generalize hLB : lbR n l = LB at *
                go_wp2_with (first
                  | (guard_target =~ Code.wp _ (Code.region 12 _ true) _ _ _; refine region_treeC0 12 (G := True) (.q 0 (.q 1 (.q 2 (.q 3 (.q 4 (.q 5 (.q 6 (.q 7 (.q 8 (.q 9 (.q 10 (.q 11 (.q 12 (.q 13 (.q 14 (.q 15 (.q 16 (.q 17 .nil)))))))))))))))))) (by kernel_rfl) (by intro c a d v w h; cases d <;> exact h) (by kernel_rfl) H ⟨trivial⟩ (fun _ w3 H2 => ?_); (clear H; (try clear w2); revert w3; intro w2 H))
                  | (guard_target =~ Code.wp _ (Code.region 13 _ true) _ _ _; refine region_treeC0 13 (G := True) (.q 0 (.q 1 (.q 2 (.q 3 (.q 4 (.q 5 (.q 6 (.q 7 (.q 8 .nil))))))))) (by kernel_rfl) (by intro c a d v w h; cases d <;> exact h) (by kernel_rfl) H ⟨trivial⟩ (fun _ w3 H2 => ?_); (clear H; (try clear w2); revert w3; intro w2 H))
                  | (guard_target =~ Code.wp _ (Code.region 15 _ true) _ _ _; refine region_treeC0 15 (G := True) (.q 0 (.q 1 (.q 2 (.q 3 (.q 4 (.q 5 (.q 6 (.q 7 (.q 8 .nil))))))))) (by kernel_rfl) (by intro c a d v w h; cases d <;> exact h) (by kernel_rfl) H ⟨trivial⟩ (fun _ w3 H2 => ?_); (clear H; (try clear w2); revert w3; intro w2 H))
                  | (guard_target =~ wpList _ _ _ (_ :: _) _ _; (first | (guard_target =~ wpList _ _ _ (Oper.mk _ (.load _ _) _ _ _ _ :: _) _ _; refine BigFrame.wpList_want rfl (fun K hK => ?_); (first | (refine o_load (v := ?_) (r := ?_) rfl rfl H ?_ ?_ ?_ (hK _ _ ?_); rotate_left 2; (with_reducible assumption); (repeat first | exact .head _ | apply List.Mem.tail); (focus (intro _; simp; done))) | (refine o_loadC (v := ?_) (row := ?_) rfl rfl H ?_ ?_ ?_ (hK _ _ ?_); rotate_left 2; (repeat first | exact .head _ | apply List.Mem.tail); (exact rfl); (focus (intro _; simp; done)))); clear hK K) | (guard_target =~ wpList _ _ _ (Oper.mk _ (.store _ _ _) _ _ _ _ :: _) _ _; refine BigFrame.wpList_want rfl (fun K hK => ?_); (refine o_storeG (e := ?_) (size := ?_) (n := ?_) (cap := ?_) (xs := ?_) (l' := ?_) rfl rfl H rfl ?_ ?_ ?_ ?_ (fun w3 H2 => hK _ _ ?_); rotate_left 6; (exact r0); (focus (intro _; simp [Act.eval, Value.cells]; done)); (focus ((try simp [Act.eval, Value.cells]); omega)); (exact rfl); clear hK K; clear H; (try clear w2); revert w3; intro w2 H; simp [Act.eval, Value.cells, setL, List.getD] at H))); simp only [Act.put, List.setIfInBounds_toArray, List.set_cons_succ, List.set_cons_zero])
                  | (guard_target =~ wpTreeC _ _ _ _ _ _ _; first | (guard_target =~ wpTreeC _ _ _ (Tr.e _ Tr.nil) _ _ _; refine treeC_last (by decide +kernel) H rfl rfl (fun w3 H2 K hK => ?_); clear H; (try clear w2); (revert w3; intro w2 H); simp only [List.getElem_toArray, List.getElem_cons_succ, List.getElem_cons_zero]; (first | fail); simp only [Act.put, List.setIfInBounds_toArray, List.set_cons_succ, List.set_cons_zero]) | (guard_target =~ wpTreeC _ _ _ (Tr.q _ _) _ _ _; first | (refine treeC_quiet ⟨_, H, by repeat first | exact .here | apply Suf.there⟩ rfl rfl rfl (fun K hK => ?_); simp only [List.getElem_toArray, List.getElem_cons_succ, List.getElem_cons_zero]; first | (guard_target =~ Oper.quiet _ (Oper.mk _ (.load _ _) _ _ _ _) _ _ _; (first | (refine q_load (v := ?_) (r := ?_) rfl rfl ?_ ?_ ?_ (hK _ ?_); rotate_left 2; (with_reducible assumption); (repeat first | exact .head _ | apply List.Mem.tail); (focus (intro _; simp; done))) | (refine q_loadC (v := ?_) (row := ?_) rfl rfl ?_ ?_ ?_ (hK _ ?_); rotate_left 2; (repeat first | exact .head _ | apply List.Mem.tail); (exact rfl); (focus (intro _; simp; done))) | (refine q_loadNC (row := ?_) rfl rfl ?_ ?_ ?_ (hK _ ?_); rotate_left 1; (repeat first | exact .head _ | apply List.Mem.tail); (focus (intro _; simp; done)); (focus (intro _; simp; done)))); clear hK K; simp only [Act.put, List.setIfInBounds_toArray, List.set_cons_succ, List.set_cons_zero]) | (go_big_quiet_op; (try refine ⟨_, fun _ _ => rfl, ?_⟩); refine hK _ ?_; clear hK K)) | (refine treeC_call (v := ?_) ⟨_, H, by repeat first | exact .here | apply Suf.there⟩ rfl rfl (fun w3 H K hK => ?_) ?_; rotate_left 1; (focus (simp only [List.getElem_toArray, List.getElem_cons_succ, List.getElem_cons_zero]; first | (go_big_op; first | exact hK _ (Ext.refl _) | (go_at_call 49; (with_reducible refine (h2 _ _ (by exact H.giveRd m3 f0)).mono ?_); rintro e w3 ⟨rfl, hb⟩; dsimp only; first | exact hK _ hb | exact hK _ (Ext.refl _)) | (go_at_call 49; (with_reducible refine (h3 _ _ (by exact H.giveRd m3 f0)).mono ?_); rintro e w3 ⟨rfl, hb⟩; dsimp only; first | exact hK _ hb | exact hK _ (Ext.refl _))))); simp only [List.getElem_toArray, List.getElem_cons_succ, List.getElem_cons_zero, Act.put, List.setIfInBounds_toArray, List.set_cons_succ, List.set_cons_zero]) | (refine treeC_skip ⟨_, H, by repeat first | exact .here | apply Suf.there⟩ rfl rfl ?_; simp only [List.getElem_toArray, List.getElem_cons_succ, List.getElem_cons_zero, Act.put, List.setIfInBounds_toArray, List.set_cons_succ, List.set_cons_zero])) | (guard_target =~ wpTreeC _ _ _ (Tr.both _ _) _ _ _; refine treeC_both ?_ ?_) | (guard_target =~ wpTreeC _ _ _ (Tr.e _ _) _ _ _; first | (refine treeC_one H rfl rfl (fun w3 H2 K hK => ?_); clear H; (try clear w2); (revert w3; intro w2 H); simp only [List.getElem_toArray, List.getElem_cons_succ, List.getElem_cons_zero]; first | ((first | fail); simp only [Act.put, List.setIfInBounds_toArray, List.set_cons_succ, List.set_cons_zero]) | (go_big_op; (first | fail))) | (refine treeC_one_skip (fun w3 hx => ⟨_, H.ext hx, by repeat first | exact .here | apply Suf.there⟩) rfl rfl (fun w3 hx => ?_); replace H := H.ext hx; clear hx; (try clear w2); revert w3; intro w2 H; simp only [List.getElem_toArray, List.getElem_cons_succ, List.getElem_cons_zero, Act.put, List.setIfInBounds_toArray, List.set_cons_succ, List.set_cons_zero])) | (guard_target =~ wpTreeC _ _ _ Tr.nil _ _ _; refine treeC_nil H (fun w3 H2 => ?_); clear H; (try clear w2); revert w3; intro w2 H)))
                go_roundg (gk - 1)
                case rel =>
                  refine ⟨by omega, by have := HQ.out; congr 1; omega, ?_⟩
                  rw [show m - (gk - 1) = q + 1 by have := HQ.out; omega, HST.out, ← HSET.out]
                  exact H
                case measure => omega
              · have q1 : decide ((l pa : Int) < (l pb : Int)) = false := decide_eq_false (by omega)
                have q2 : decide ((l pb : Int) < (l pa : Int)) = false := decide_eq_false (by omega)
                have hrl := relax_e (l := l) (a := pa) (b := pb) (by omega)
                have HRL := Lib.hid hrl
                clear hrl hc
                generalize hla : (l pa : Int) = la at *
                generalize hlb : (l pb : Int) = lb at *
                generalize hLB : lbR n l = LB at *
                have HLB := Lib.hid hLB
                clear hLB
                go_wp2_with (first
                  | (guard_target =~ Code.wp _ (Code.region 12 _ true) _ _ _; refine region_treeC0 12 (G := True) (.q 0 (.q 1 (.q 2 (.q 3 (.q 4 (.q 5 (.q 6 (.q 7 (.q 8 (.q 9 (.q 10 (.q 11 (.q 12 (.q 13 (.q 14 (.q 15 (.q 16 (.q 17 .nil)))))))))))))))))) (by kernel_rfl) (by intro c a d v w h; cases d <;> exact h) (by kernel_rfl) H ⟨trivial⟩ (fun _ w3 H2 => ?_); (clear H; (try clear w2); revert w3; intro w2 H))
                  | (guard_target =~ Code.wp _ (Code.region 13 _ true) _ _ _; refine region_treeC0 13 (G := True) (.q 0 (.q 1 (.q 2 (.q 3 (.q 4 (.q 5 (.q 6 (.q 7 (.q 8 .nil))))))))) (by kernel_rfl) (by intro c a d v w h; cases d <;> exact h) (by kernel_rfl) H ⟨trivial⟩ (fun _ w3 H2 => ?_); (clear H; (try clear w2); revert w3; intro w2 H))
                  | (guard_target =~ Code.wp _ (Code.region 15 _ true) _ _ _; refine region_treeC0 15 (G := True) (.q 0 (.q 1 (.q 2 (.q 3 (.q 4 (.q 5 (.q 6 (.q 7 (.q 8 .nil))))))))) (by kernel_rfl) (by intro c a d v w h; cases d <;> exact h) (by kernel_rfl) H ⟨trivial⟩ (fun _ w3 H2 => ?_); (clear H; (try clear w2); revert w3; intro w2 H))
                  | (guard_target =~ wpList _ _ _ (_ :: _) _ _; (guard_target =~ wpList _ _ _ (Oper.mk _ (.load _ _) _ _ _ _ :: _) _ _; refine BigFrame.wpList_want rfl (fun K hK => ?_); (refine o_loadC (v := ?_) (row := ?_) rfl rfl H ?_ ?_ ?_ (hK _ _ ?_); rotate_left 2; (repeat first | exact .head _ | apply List.Mem.tail); (exact rfl); (focus (intro _; simp; done))); clear hK K); simp only [Act.put, List.setIfInBounds_toArray, List.set_cons_succ, List.set_cons_zero])
                  | (guard_target =~ wpTreeC _ _ _ _ _ _ _; first | (guard_target =~ wpTreeC _ _ _ (Tr.e _ Tr.nil) _ _ _; refine treeC_last (by decide +kernel) H rfl rfl (fun w3 H2 K hK => ?_); clear H; (try clear w2); (revert w3; intro w2 H); simp only [List.getElem_toArray, List.getElem_cons_succ, List.getElem_cons_zero]; (first | fail); simp only [Act.put, List.setIfInBounds_toArray, List.set_cons_succ, List.set_cons_zero]) | (guard_target =~ wpTreeC _ _ _ (Tr.q _ _) _ _ _; first | (refine treeC_quiet ⟨_, H, by repeat first | exact .here | apply Suf.there⟩ rfl rfl rfl (fun K hK => ?_); simp only [List.getElem_toArray, List.getElem_cons_succ, List.getElem_cons_zero]; first | (guard_target =~ Oper.quiet _ (Oper.mk _ (.load _ _) _ _ _ _) _ _ _; (first | (refine q_load (v := ?_) (r := ?_) rfl rfl ?_ ?_ ?_ (hK _ ?_); rotate_left 2; (with_reducible assumption); (repeat first | exact .head _ | apply List.Mem.tail); (focus (intro _; simp; done))) | (refine q_loadC (v := ?_) (row := ?_) rfl rfl ?_ ?_ ?_ (hK _ ?_); rotate_left 2; (repeat first | exact .head _ | apply List.Mem.tail); (exact rfl); (focus (intro _; simp; done))) | (refine q_loadNC (row := ?_) rfl rfl ?_ ?_ ?_ (hK _ ?_); rotate_left 1; (repeat first | exact .head _ | apply List.Mem.tail); (focus (intro _; simp; done)); (focus (intro _; simp; done)))); clear hK K; simp only [Act.put, List.setIfInBounds_toArray, List.set_cons_succ, List.set_cons_zero]) | (go_big_quiet_op; (try refine ⟨_, fun _ _ => rfl, ?_⟩); refine hK _ ?_; clear hK K)) | (refine treeC_call (v := ?_) ⟨_, H, by repeat first | exact .here | apply Suf.there⟩ rfl rfl (fun w3 H K hK => ?_) ?_; rotate_left 1; (focus (simp only [List.getElem_toArray, List.getElem_cons_succ, List.getElem_cons_zero]; first | (go_big_op; first | exact hK _ (Ext.refl _) | (go_at_call 49; (with_reducible refine (h2 _ _ (by exact H.giveRd m3 f0)).mono ?_); rintro e w3 ⟨rfl, hb⟩; dsimp only; first | exact hK _ hb | exact hK _ (Ext.refl _)) | (go_at_call 49; (with_reducible refine (h3 _ _ (by exact H.giveRd m3 f0)).mono ?_); rintro e w3 ⟨rfl, hb⟩; dsimp only; first | exact hK _ hb | exact hK _ (Ext.refl _))))); simp only [List.getElem_toArray, List.getElem_cons_succ, List.getElem_cons_zero, Act.put, List.setIfInBounds_toArray, List.set_cons_succ, List.set_cons_zero]) | (refine treeC_skip ⟨_, H, by repeat first | exact .here | apply Suf.there⟩ rfl rfl ?_; simp only [List.getElem_toArray, List.getElem_cons_succ, List.getElem_cons_zero, Act.put, List.setIfInBounds_toArray, List.set_cons_succ, List.set_cons_zero])) | (guard_target =~ wpTreeC _ _ _ (Tr.both _ _) _ _ _; refine treeC_both ?_ ?_) | (guard_target =~ wpTreeC _ _ _ (Tr.e _ _) _ _ _; first | (refine treeC_one H rfl rfl (fun w3 H2 K hK => ?_); clear H; (try clear w2); (revert w3; intro w2 H); simp only [List.getElem_toArray, List.getElem_cons_succ, List.getElem_cons_zero]; first | ((first | fail); simp only [Act.put, List.setIfInBounds_toArray, List.set_cons_succ, List.set_cons_zero]) | (go_big_op; (first | fail))) | (refine treeC_one_skip (fun w3 hx => ⟨_, H.ext hx, by repeat first | exact .here | apply Suf.there⟩) rfl rfl (fun w3 hx => ?_); replace H := H.ext hx; clear hx; (try clear w2); revert w3; intro w2 H; simp only [List.getElem_toArray, List.getElem_cons_succ, List.getElem_cons_zero, Act.put, List.setIfInBounds_toArray, List.set_cons_succ, List.set_cons_zero])) | (guard_target =~ wpTreeC _ _ _ Tr.nil _ _ _; refine treeC_nil H (fun w3 H2 => ?_); clear H; (try clear w2); revert w3; intro w2 H)))
                go_roundg (gk - 1)
                case rel =>
                  refine ⟨by omega, by have := HQ.out; congr 1; omega, ?_⟩
                  rw [show m - (gk - 1) = q + 1 by have := HQ.out; omega, HST.out, HRL.out, HLB.out]
                  exact H
                case measure => omega
            · obtain rfl : gk = 0 := by omega
              rw [Nat.sub_zero, List.take_of_length_le (by have := HM.out; omega)] at H
              go_wp2_with (guard_target =~ wpList _ _ _ (_ :: _) _ _; (guard_target =~ wpList _ _ _ (Oper.mk _ (.load _ _) _ _ _ _ :: _) _ _; refine BigFrame.wpList_want rfl (fun K hK => ?_); (refine o_loadC (v := ?_) (row := ?_) rfl rfl H ?_ ?_ ?_ (hK _ _ ?_); rotate_left 2; (repeat first | exact .head _ | apply List.Mem.tail); (exact rfl); (focus (intro _; simp; done))); clear hK K); simp only [Act.put, List.setIfInBounds_toArray, List.set_cons_succ, List.set_cons_zero])
              go_roundg (gkA - 1)
              case rel =>
                refine ⟨by omega, by have := HJ.out; congr 1; omega, ?_⟩
                rw [show n - (gkA - 1) = j + 1 by have := HJ.out; omega]
                exact H
              case measure => omega
        · obtain rfl : gk = 0 := by omega
          rw [Nat.sub_zero] at H
          go_wp2_with (guard_target =~ wpList _ _ _ (_ :: _) _ _; (guard_target =~ wpList _ _ _ (Oper.mk _ (.load _ _) _ _ _ _ :: _) _ _; refine BigFrame.wpList_want rfl (fun K hK => ?_); (refine o_loadC (v := ?_) (row := ?_) rfl rfl H ?_ ?_ ?_ (hK _ _ ?_); rotate_left 2; (repeat first | exact .head _ | apply List.Mem.tail); (exact rfl); (focus (intro _; simp; done))); clear hK K); simp only [Act.put, List.setIfInBounds_toArray, List.set_cons_succ, List.set_cons_zero])
          obtain ⟨Ar, cr, e9, h4, h5, h6⟩ := H.giveGrow m0 HF.out
          injection e9 with e1 e2 e3
          subst e1 e3
          go_ret
          exact ⟨_, _, rfl, H.below, h6, h4, h5⟩
end Go.Proofs.Ytlhmjhildlnokaa

/-
  The walk of SpinCounts.
-/
namespace Go.Proofs.Ytlhmjhildlnokaa
set_option linter.unusedVariables false
set_option linter.unusedSimpArgs false
open Go.RowKit

theorem deg_none {id : Int} : ∀ (es : List Eg), degN es id = 0 ↔ ∀ e ∈ es, e.a ≠ id ∧ e.b ≠ id
  | [] => by simp [degN]
  | e :: es => by
    have ih := deg_none (id := id) es
    unfold degN
    constructor
    · intro h f hf
      rcases List.mem_cons.1 hf with rfl | hf
      · constructor
        · intro q; rw [if_pos q] at h; omega
        · intro q; rw [if_pos q] at h; omega
      · exact ih.1 (by omega) f hf
    · intro h
      have h1 := h e (by simp)
      rw [if_neg h1.1, if_neg h1.2, ih.2 fun f hf => h f (by simp [hf])]
theorem deg_has {vs : List Vt} {es : List Eg} (H : RightP vs es) {j : Nat} {v : Vt} (hv : vs[j]? = some v) : (((degN es v.id : Nat) : Int) == 0) = !hasE vs es j := by
  have hp := plc_at H hv
  have hth := vert_there (List.mem_of_getElem? hv)
  rw [Bool.eq_iff_iff, beq_iff_eq, Bool.not_eq_true', Int.natCast_eq_zero, deg_none]
  unfold hasE
  rw [List.any_eq_false]
  constructor
  · intro h e he hq
    have hE := H.each e he
    rw [Bool.or_eq_true, beq_iff_eq, beq_iff_eq, ← hp, plc_inj hE.2.1.2.1 hth, plc_inj hE.2.1.2.2 hth] at hq
    have := h e he
    omega
  · intro h e he
    have := h e he
    have hE := H.each e he
    rw [Bool.or_eq_true, beq_iff_eq, beq_iff_eq, ← hp, plc_inj hE.2.1.2.1 hth, plc_inj hE.2.1.2.2 hth] at this
    omega
def cntB (f : Nat → Bool) (j : Nat) : Int := (((List.range j).filter f).length : Int)
theorem cntB_step (f : Nat → Bool) (j : Nat) : cntB f (j + 1) = cntB f j + if f j then 1 else 0 := by
  unfold cntB
  rw [List.range_succ, List.filter_append, List.length_append]
  cases h : f j <;> simp [h]
theorem cntB_le (f : Nat → Bool) (j : Nat) : 0 ≤ cntB f j ∧ cntB f j ≤ j := by
  unfold cntB
  have := List.length_filter_le f (List.range j)
  rw [List.length_range] at this
  omega
set_option maxRecDepth 200000 in
set_option maxHeartbeats 16000000 in
theorem law_SpinCounts (A A2 : Option Addr) (c c2 : Nat) (vs : List Vt) (es : List Eg) (w : World) (hp : PlArg w A A2 c c2 vs es) :
    Calls Try.prog 6 #[.agg #[.slice A vs.length c, .slice A2 es.length c2]] w fun e w' => e = .returned (.bool true) ∧ Below w.heap.size w w' := by
  obtain ⟨hs, hs2, hcv, hce, _, _⟩ := hp
  obtain ⟨F0, hF0⟩ : ∃ F0 : Nat → Prop, F0 = fun _ => False := ⟨_, rfl⟩
  have hFF : ∀ k, F0 k → k < w.heap.size := fun k h => by rw [hF0] at h; exact h.elim
  rw [← hF0] at hs hs2
  clear hF0
  obtain ⟨b0, o0, H1, f0⟩ := (Own.start w).addSl (hs.ro (by rfl))
  obtain ⟨b9, o9, H, f9⟩ := H1.addSl (hs2.ro (by rfl))
  clear hs hs2 H1
  have hfw := few16_any A A2 vs.length es.length c c2
  obtain ⟨v0, hv0⟩ : ∃ v, (decide (vs.length ≤ 40) && decide (es.length ≤ 40)) = v := ⟨_, rfl⟩
  rw [hv0] at hfw
  cases v0
  · clear hv0
    go_enter Try.func6, Try.ntmps6
    have tk0 : True := trivial
    go_wp2_with (first
      | (go_at_call 12; (with_reducible refine (hfw _).mono ?_); rintro e w3 ⟨rfl, hb⟩; replace H := H.ext hb; clear hb; dsimp only; (skip))
      | (go_at_call 13; (with_reducible refine (awake16_any _).mono ?_); rintro e w3 ⟨rfl, hb⟩; replace H := H.ext hb; clear hb; dsimp only; (skip))
      | (guard_target =~ wpList _ _ _ (_ :: _) _ _; (first | (guard_target =~ wpList _ _ _ (Oper.mk _ (.load _ _) _ _ _ _ :: _) _ _; refine BigFrame.wpList_want rfl (fun K hK => ?_); (refine o_loadNC (row := ?_) rfl rfl H ?_ ?_ ?_ (hK _ _ ?_); rotate_left 1; (repeat first | exact .head _ | apply List.Mem.tail); (focus (intro _; simp; done)); (focus (intro _; simp; done))); clear hK K) | ((guard_target =~ wpList _ _ _ (Oper.mk _ (.box _ _) _ _ _ _ :: _) _ _; refine BigFrame.wpList_want rfl (fun K hK => ?_); refine o_box rfl H rfl (fun w3 b2 he H2 => hK _ _ ?_)); clear hK K he; clear H; (try clear w2); revert w3; intro w2 H; simp [Act.eval, Value.cells, setL, List.getD] at H; (clear tk0; rename Nat => b1))); simp only [Act.put, List.setIfInBounds_toArray, List.set_cons_succ, List.set_cons_zero]))
    go_ret
    exact ⟨rfl, H.below⟩
  · have hl : vs.length ≤ 40 := by simp at hv0; omega
    have hl2 : es.length ≤ 40 := by simp at hv0; omega
    clear hv0
    have hc2 := hce.1
    have hcc := hce.2
    have h1 := fun F w h1 h2 hF => srings_any vs es A A2 vs.length es.length c c2 F w rfl rfl h1 h2 hF (by omega) (by omega) hc2 hcc
    have h2 := fun F w h1 h2 => right_any vs es A A2 vs.length es.length c c2 F w rfl rfl h1 h2 (by omega) (by omega) hc2 hcc
    have hRR : rightB vs es = true → RightP vs es := rightB_P
    generalize rightB vs es = r at h1 h2 hRR
    cases r
    · simp only [Bool.false_eq_true, if_false] at h1
      go_enter Try.func6, Try.ntmps6
      have tk0 : True := trivial
      go_wp2_with (first
        | (go_at_call 12; (with_reducible refine (hfw _).mono ?_); rintro e w3 ⟨rfl, hb⟩; replace H := H.ext hb; clear hb; dsimp only; (skip))
        | (go_at_call 13; (with_reducible refine (awake16_any _).mono ?_); rintro e w3 ⟨rfl, hb⟩; replace H := H.ext hb; clear hb; dsimp only; (skip))
        | (go_at_call 15; (with_reducible refine (plain16_any _ _ _ _ _ _ _).mono ?_); rintro e w3 ⟨rfl, hb⟩; replace H := H.ext hb; clear hb; dsimp only; (skip))
        | (go_at_call 14; (with_reducible refine (h1 (FW F0 _) _ (by exact H.giveRd m2 f0) (by exact H.giveRd m1 f9) (H.fw_lt rfl hFF)).mono ?_); rintro e w3 ⟨A3, c3, hs3, rfl, hb, s3, g3, a3, q3, q4⟩; replace H := H.ext hb; clear hb; obtain ⟨b3, o3, H4⟩ := H.addRet s3 a3; replace H := H4; clear H4 s3 a3; dsimp only; (skip))
        | (go_at_call 25; (with_reducible refine (h2 _ _ (by exact H.giveRd m4 f0) (by exact H.giveRd m3 f9)).mono ?_); rintro e w3 ⟨rfl, hb⟩; replace H := H.ext hb; clear hb; dsimp only; (skip))
        | (guard_target =~ wpList _ _ _ (_ :: _) _ _; (first | (guard_target =~ wpList _ _ _ (Oper.mk _ (.load _ _) _ _ _ _ :: _) _ _; refine BigFrame.wpList_want rfl (fun K hK => ?_); (refine o_loadNC (row := ?_) rfl rfl H ?_ ?_ ?_ (hK _ _ ?_); rotate_left 1; (repeat first | exact .head _ | apply List.Mem.tail); (focus (intro _; simp; done)); (focus (intro _; simp; done))); clear hK K) | ((guard_target =~ wpList _ _ _ (Oper.mk _ (.box _ _) _ _ _ _ :: _) _ _; refine BigFrame.wpList_want rfl (fun K hK => ?_); refine o_box rfl H rfl (fun w3 b2 he H2 => hK _ _ ?_)); clear hK K he; clear H; (try clear w2); revert w3; intro w2 H; simp [Act.eval, Value.cells, setL, List.getD] at H; (clear tk0; rename Nat => b1))); simp only [Act.put, List.setIfInBounds_toArray, List.set_cons_succ, List.set_cons_zero]))
      exact bodyPost_ret (v := .bool true) (by simp [results, Try.results6]) rfl ⟨rfl, H.below⟩
    · have HR := Lib.hid (hRR rfl)
      clear hRR
      simp only [if_true] at h1
      have h3 := fun F w h1 h2 hF => pieces_any vs es A A2 vs.length es.length c c2 F w HR.out rfl rfl h1 h2 hF
      have hfew : (ringsZ vs es).length ≤ 2048 := Nat.le_trans (rings_few (rings_of (next_one HR.out) (halves es) fun _ h => h)) (few_halves HR.out)
      have heu := euler_law HR.out
      have hdg := fun F id w h => degree_any es A2 A es.length vs.length c2 c F id w rfl h (by omega)
      generalize hrs : ringsZ vs es = rs at h1 hfew heu
      clear hrs
      go_enter Try.func6, Try.ntmps6
      have tk0 : True := trivial
      go_wp2_with (first
        | (go_at_call 12; (with_reducible refine (hfw _).mono ?_); rintro e w3 ⟨rfl, hb⟩; replace H := H.ext hb; clear hb; dsimp only; (skip))
        | (go_at_call 13; (with_reducible refine (awake16_any _).mono ?_); rintro e w3 ⟨rfl, hb⟩; replace H := H.ext hb; clear hb; dsimp only; (skip))
        | (go_at_call 15; (with_reducible refine (plain16_any _ _ _ _ _ _ _).mono ?_); rintro e w3 ⟨rfl, hb⟩; replace H := H.ext hb; clear hb; dsimp only; (skip))
        | (go_at_call 14; (with_reducible refine (h1 (FW F0 _) _ (by exact H.giveRd m2 f0) (by exact H.giveRd m1 f9) (H.fw_lt rfl hFF)).mono ?_); rintro e w3 ⟨A3, c3, hs3, rfl, hb, s3, g3, a3, q3, q4⟩; replace H := H.ext hb; clear hb; obtain ⟨b3, o3, H4⟩ := H.addRet s3 a3; replace H := H4; clear H4 s3 a3; dsimp only; (skip))
        | (go_at_call 25; (with_reducible refine (h2 _ _ (by exact H.giveRd m4 f0) (by exact H.giveRd m3 f9)).mono ?_); rintro e w3 ⟨rfl, hb⟩; replace H := H.ext hb; clear hb; dsimp only; (skip))
        | (go_at_call 26; (with_reducible refine (h3 (FW F0 _) _ (by exact H.giveRd m4 f0) (by exact H.giveRd m3 f9) (H.fw_lt rfl hFF)).mono ?_); rintro e w3 ⟨A4, c4, rfl, hb, s4, q5, q6⟩; replace H := H.ext hb; clear hb; obtain ⟨b4, o4, H4, f4⟩ := H.addSl s4; clear H s4; have H := H4; clear H4; dsimp only; (skip))
        | (guard_target =~ wpList _ _ _ (_ :: _) _ _; (first | (guard_target =~ wpList _ _ _ (Oper.mk _ (.load _ _) _ _ _ _ :: _) _ _; refine BigFrame.wpList_want rfl (fun K hK => ?_); (refine o_loadNC (row := ?_) rfl rfl H ?_ ?_ ?_ (hK _ _ ?_); rotate_left 1; (repeat first | exact .head _ | apply List.Mem.tail); (focus (intro _; simp; done)); (focus (intro _; simp; done))); clear hK K) | ((guard_target =~ wpList _ _ _ (Oper.mk _ (.box _ _) _ _ _ _ :: _) _ _; refine BigFrame.wpList_want rfl (fun K hK => ?_); refine o_box rfl H rfl (fun w3 b2 he H2 => hK _ _ ?_)); clear hK K he; clear H; (try clear w2); revert w3; intro w2 H; simp [Act.eval, Value.cells, setL, List.getD] at H; (clear tk0; rename Nat => b1))); simp only [Act.put, List.setIfInBounds_toArray, List.set_cons_succ, List.set_cons_zero]))
      generalize hf : roundsF (primL vs es) vs.length = f at H heu
      generalize hRn : rs.length = Rn at hfew heu ⊢
      have HEU := Lib.hid heu
      clear heu hf
      go_loopg [7, 5, 6] vs.length (fun k i x y wr => k ≤ vs.length ∧ i = .int .i64 ((vs.length - k : Nat) : Int) ∧ x = .int .i64 (cntB (hasE vs es) (vs.length - k)) ∧ y = .int .i64 (cntB (fun i => hasE vs es i && (f i == i)) (vs.length - k)) ∧
        Own w.heap.size w wr [.rd A4 b4 o4 (lbR vs.length f), RsR hs3 rs, .rd A3 b3 o3 hs3, .cells b1 [.slice A vs.length c, .slice A2 es.length c2], .rd A2 b9 o9 (eR es), .rd A b0 o0 (vR vs)])
      case atStart => exact ⟨Nat.le_refl _, by simp, by rw [Nat.sub_self]; rfl, by rw [Nat.sub_self]; rfl, H⟩
      case round =>
        clear H
        obtain ⟨hk, rfl, rfl, rfl, H⟩ := hrel
        by_cases hlt : 0 < gk
        · obtain ⟨j, hj⟩ : ∃ j, vs.length - gk = j := ⟨_, rfl⟩
          have hjl : j < vs.length := by omega
          rw [hj]
          obtain ⟨i, x, y, he⟩ := vt_at vs hjl
          obtain rfl := H.rdAddr m5 (vR_pos he)
          have hp := at_vid (A := some ⟨b0, o0, none⟩) (b := b0) (off := o0) he
          have hd := deg_has HR.out he
          simp only at hd
          have hlb : (lbR vs.length f)[j]? = some (.int .i64 (f j : Int)) := by simp [lbR, hjl]
          obtain rfl := H.rdAddr m0 (Nat.lt_of_le_of_lt (Nat.zero_le _) (List.getElem?_eq_some_iff.1 hlb).1)
          have hp4 := at_rd (A := some ⟨b4, o4, none⟩) (b := b4) (off := o4) hlb
          have hb1 := cntB_le (hasE vs es) j
          have hb2 := cntB_le (fun i => hasE vs es i && (f i == i)) j
          have hs1 := cntB_step (hasE vs es) j
          have hs2 := cntB_step (fun i => hasE vs es i && (f i == i)) j
          have hdg1 := fun F w h => hdg F i w h
          generalize ((degN es i : Nat) : Int) = d at hd hdg1
          obtain ⟨v1, hv1⟩ : ∃ v, hasE vs es j = v := ⟨_, rfl⟩
          have hv2 : ((f j : Int) == (j : Int)) = (f j == j) := by rw [Bool.eq_iff_iff, beq_iff_eq, beq_iff_eq]; omega
          obtain ⟨v2, hv2'⟩ : ∃ v, (f j == j) = v := ⟨_, rfl⟩
          rw [hv1] at hd
          simp only [hv1, hv2'] at hs1 hs2
          rw [hv2'] at hv2
          generalize cntB (hasE vs es) j = x1 at *
          generalize cntB (fun i => hasE vs es i && (f i == i)) j = x2 at *
          generalize hfj : ((f j : Nat) : Int) = fj at *
          have e1 : IntKind.i64.wrap (x1 + 1) = x1 + 1 := IntWalk.i64_in _ (by omega)
          have e2 : IntKind.i64.wrap (x2 + 1) = x2 + 1 := IntWalk.i64_in _ (by omega)
          have HS1 := Lib.hid hs1
          have HS2 := Lib.hid hs2
          have HJ := Lib.hid hj
          clear he hj hs1 hs2 hlb hv1 hv2' hfj hb1 hb2
          cases v1
          · simp only [Bool.not_false] at hd
            go_wp2_with (first
              | (guard_target =~ Code.wp _ (Code.region 11 _ true) _ _ _; refine region_treeC0 11 (G := True) (.q 0 (.q 1 (.q 2 (.q 3 (.q 4 (.q 5 (.q 6 (.q 7 (.q 8 (.q 9 .nil)))))))))) (by kernel_rfl) (by intro c a d v w h; cases d <;> exact h) (by kernel_rfl) H ⟨trivial⟩ (fun _ w3 H2 => ?_); (clear H; (try clear w2); revert w3; intro w2 H))
              | (guard_target =~ wpList _ _ _ (_ :: _) _ _; (guard_target =~ wpList _ _ _ (Oper.mk _ (.load _ _) _ _ _ _ :: _) _ _; refine BigFrame.wpList_want rfl (fun K hK => ?_); (refine o_loadC (v := ?_) (row := ?_) rfl rfl H ?_ ?_ ?_ (hK _ _ ?_); rotate_left 2; (repeat first | exact .head _ | apply List.Mem.tail); (exact rfl); (focus (intro _; simp; done))); clear hK K); simp only [Act.put, List.setIfInBounds_toArray, List.set_cons_succ, List.set_cons_zero])
              | (guard_target =~ wpTreeC _ _ _ _ _ _ _; first | (guard_target =~ wpTreeC _ _ _ (Tr.e _ Tr.nil) _ _ _; refine treeC_last (by decide +kernel) H rfl rfl (fun w3 H2 K hK => ?_); clear H; (try clear w2); (revert w3; intro w2 H); simp only [List.getElem_toArray, List.getElem_cons_succ, List.getElem_cons_zero]; (first | fail); simp only [Act.put, List.setIfInBounds_toArray, List.set_cons_succ, List.set_cons_zero]) | (guard_target =~ wpTreeC _ _ _ (Tr.q _ _) _ _ _; first | (refine treeC_quiet ⟨_, H, by repeat first | exact .here | apply Suf.there⟩ rfl rfl rfl (fun K hK => ?_); simp only [List.getElem_toArray, List.getElem_cons_succ, List.getElem_cons_zero]; first | (guard_target =~ Oper.quiet _ (Oper.mk _ (.load _ _) _ _ _ _) _ _ _; (first | (refine q_load (v := ?_) (r := ?_) rfl rfl ?_ ?_ ?_ (hK _ ?_); rotate_left 2; (with_reducible assumption); (repeat first | exact .head _ | apply List.Mem.tail); (focus (intro _; simp; done))) | (refine q_loadC (v := ?_) (row := ?_) rfl rfl ?_ ?_ ?_ (hK _ ?_); rotate_left 2; (repeat first | exact .head _ | apply List.Mem.tail); (exact rfl); (focus (intro _; simp; done))) | (refine q_loadNC (row := ?_) rfl rfl ?_ ?_ ?_ (hK _ ?_); rotate_left 1; (repeat first | exact .head _ | apply List.Mem.tail); (focus (intro _; simp; done)); (focus (intro _; simp; done)))); clear hK K; simp only [Act.put, List.setIfInBounds_toArray, List.set_cons_succ, List.set_cons_zero]) | (go_big_quiet_op; (try refine ⟨_, fun _ _ => rfl, ?_⟩); refine hK _ ?_; clear hK K)) | (refine treeC_call (v := ?_) ⟨_, H, by repeat first | exact .here | apply Suf.there⟩ rfl rfl (fun w3 H K hK => ?_) ?_; rotate_left 1; (focus (simp only [List.getElem_toArray, List.getElem_cons_succ, List.getElem_cons_zero]; first | (go_big_op; first | exact hK _ (Ext.refl _) | (go_at_call 15; (with_reducible refine (plain16_any _ _ _ _ _ _ _).mono ?_); rintro e w3 ⟨rfl, hb⟩; dsimp only; first | exact hK _ hb | exact hK _ (Ext.refl _)) | (go_at_call 27; (with_reducible refine (hdg1 _ _ (by exact H.giveRd m4 f9)).mono ?_); rintro e w3 ⟨rfl, hb⟩; dsimp only; first | exact hK _ hb | exact hK _ (Ext.refl _))))); simp only [List.getElem_toArray, List.getElem_cons_succ, List.getElem_cons_zero, Act.put, List.setIfInBounds_toArray, List.set_cons_succ, List.set_cons_zero]) | (refine treeC_skip ⟨_, H, by repeat first | exact .here | apply Suf.there⟩ rfl rfl ?_; simp only [List.getElem_toArray, List.getElem_cons_succ, List.getElem_cons_zero, Act.put, List.setIfInBounds_toArray, List.set_cons_succ, List.set_cons_zero])) | (guard_target =~ wpTreeC _ _ _ (Tr.both _ _) _ _ _; refine treeC_both ?_ ?_) | (guard_target =~ wpTreeC _ _ _ (Tr.e _ _) _ _ _; first | (refine treeC_one H rfl rfl (fun w3 H2 K hK => ?_); clear H; (try clear w2); (revert w3; intro w2 H); simp only [List.getElem_toArray, List.getElem_cons_succ, List.getElem_cons_zero]; first | ((first | fail); simp only [Act.put, List.setIfInBounds_toArray, List.set_cons_succ, List.set_cons_zero]) | (go_big_op; (first | fail))) | (refine treeC_one_skip (fun w3 hx => ⟨_, H.ext hx, by repeat first | exact .here | apply Suf.there⟩) rfl rfl (fun w3 hx => ?_); replace H := H.ext hx; clear hx; (try clear w2); revert w3; intro w2 H; simp only [List.getElem_toArray, List.getElem_cons_succ, List.getElem_cons_zero, Act.put, List.setIfInBounds_toArray, List.set_cons_succ, List.set_cons_zero])) | (guard_target =~ wpTreeC _ _ _ Tr.nil _ _ _; refine treeC_nil H (fun w3 H2 => ?_); clear H; (try clear w2); revert w3; intro w2 H)))
            go_roundg (gk - 1)
            case rel => exact ⟨by omega, by have := HJ.out; congr 1; omega, by rw [show vs.length - (gk - 1) = j + 1 by have := HJ.out; omega, HS1.out]; simp, by rw [show vs.length - (gk - 1) = j + 1 by have := HJ.out; omega, HS2.out]; simp, H⟩
            case measure => omega
          · simp only [Bool.not_true] at hd
            cases v2
            · go_wp2_with (first
                | (guard_target =~ Code.wp _ (Code.region 11 _ true) _ _ _; refine region_treeC0 11 (G := True) (.q 0 (.q 1 (.q 2 (.q 3 (.q 4 (.q 5 (.q 6 (.q 7 (.q 8 (.q 9 .nil)))))))))) (by kernel_rfl) (by intro c a d v w h; cases d <;> exact h) (by kernel_rfl) H ⟨trivial⟩ (fun _ w3 H2 => ?_); (clear H; (try clear w2); revert w3; intro w2 H))
                | (guard_target =~ wpList _ _ _ (_ :: _) _ _; (guard_target =~ wpList _ _ _ (Oper.mk _ (.load _ _) _ _ _ _ :: _) _ _; refine BigFrame.wpList_want rfl (fun K hK => ?_); (first | (refine o_load (v := ?_) (r := ?_) rfl rfl H ?_ ?_ ?_ (hK _ _ ?_); rotate_left 2; (with_reducible assumption); (repeat first | exact .head _ | apply List.Mem.tail); (focus (intro _; simp; done))) | (refine o_loadC (v := ?_) (row := ?_) rfl rfl H ?_ ?_ ?_ (hK _ _ ?_); rotate_left 2; (repeat first | exact .head _ | apply List.Mem.tail); (exact rfl); (focus (intro _; simp; done)))); clear hK K); simp only [Act.put, List.setIfInBounds_toArray, List.set_cons_succ, List.set_cons_zero])
                | (guard_target =~ wpTreeC _ _ _ _ _ _ _; first | (guard_target =~ wpTreeC _ _ _ (Tr.e _ Tr.nil) _ _ _; refine treeC_last (by decide +kernel) H rfl rfl (fun w3 H2 K hK => ?_); clear H; (try clear w2); (revert w3; intro w2 H); simp only [List.getElem_toArray, List.getElem_cons_succ, List.getElem_cons_zero]; (first | fail); simp only [Act.put, List.setIfInBounds_toArray, List.set_cons_succ, List.set_cons_zero]) | (guard_target =~ wpTreeC _ _ _ (Tr.q _ _) _ _ _; first | (refine treeC_quiet ⟨_, H, by repeat first | exact .here | apply Suf.there⟩ rfl rfl rfl (fun K hK => ?_); simp only [List.getElem_toArray, List.getElem_cons_succ, List.getElem_cons_zero]; first | (guard_target =~ Oper.quiet _ (Oper.mk _ (.load _ _) _ _ _ _) _ _ _; (first | (refine q_load (v := ?_) (r := ?_) rfl rfl ?_ ?_ ?_ (hK _ ?_); rotate_left 2; (with_reducible assumption); (repeat first | exact .head _ | apply List.Mem.tail); (focus (intro _; simp; done))) | (refine q_loadC (v := ?_) (row := ?_) rfl rfl ?_ ?_ ?_ (hK _ ?_); rotate_left 2; (repeat first | exact .head _ | apply List.Mem.tail); (exact rfl); (focus (intro _; simp; done))) | (refine q_loadNC (row := ?_) rfl rfl ?_ ?_ ?_ (hK _ ?_); rotate_left 1; (repeat first | exact .head _ | apply List.Mem.tail); (focus (intro _; simp; done)); (focus (intro _; simp; done)))); clear hK K; simp only [Act.put, List.setIfInBounds_toArray, List.set_cons_succ, List.set_cons_zero]) | (go_big_quiet_op; (try refine ⟨_, fun _ _ => rfl, ?_⟩); refine hK _ ?_; clear hK K)) | (refine treeC_call (v := ?_) ⟨_, H, by repeat first | exact .here | apply Suf.there⟩ rfl rfl (fun w3 H K hK => ?_) ?_; rotate_left 1; (focus (simp only [List.getElem_toArray, List.getElem_cons_succ, List.getElem_cons_zero]; first | (go_big_op; first | exact hK _ (Ext.refl _) | (go_at_call 15; (with_reducible refine (plain16_any _ _ _ _ _ _ _).mono ?_); rintro e w3 ⟨rfl, hb⟩; dsimp only; first | exact hK _ hb | exact hK _ (Ext.refl _)) | (go_at_call 27; (with_reducible refine (hdg1 _ _ (by exact H.giveRd m4 f9)).mono ?_); rintro e w3 ⟨rfl, hb⟩; dsimp only; first | exact hK _ hb | exact hK _ (Ext.refl _))))); simp only [List.getElem_toArray, List.getElem_cons_succ, List.getElem_cons_zero, Act.put, List.setIfInBounds_toArray, List.set_cons_succ, List.set_cons_zero]) | (refine treeC_skip ⟨_, H, by repeat first | exact .here | apply Suf.there⟩ rfl rfl ?_; simp only [List.getElem_toArray, List.getElem_cons_succ, List.getElem_cons_zero, Act.put, List.setIfInBounds_toArray, List.set_cons_succ, List.set_cons_zero])) | (guard_target =~ wpTreeC _ _ _ (Tr.both _ _) _ _ _; refine treeC_both ?_ ?_) | (guard_target =~ wpTreeC _ _ _ (Tr.e _ _) _ _ _; first | (refine treeC_one H rfl rfl (fun w3 H2 K hK => ?_); clear H; (try clear w2); (revert w3; intro w2 H); simp only [List.getElem_toArray, List.getElem_cons_succ, List.getElem_cons_zero]; first | ((first | fail); simp only [Act.put, List.setIfInBounds_toArray, List.set_cons_succ, List.set_cons_zero]) | (go_big_op; (first | fail))) | (refine treeC_one_skip (fun w3 hx => ⟨_, H.ext hx, by repeat first | exact .here | apply Suf.there⟩) rfl rfl (fun w3 hx => ?_); replace H := H.ext hx; clear hx; (try clear w2); revert w3; intro w2 H; simp only [List.getElem_toArray, List.getElem_cons_succ, List.getElem_cons_zero, Act.put, List.setIfInBounds_toArray, List.set_cons_succ, List.set_cons_zero])) | (guard_target =~ wpTreeC _ _ _ Tr.nil _ _ _; refine treeC_nil H (fun w3 H2 => ?_); clear H; (try clear w2); revert w3; intro w2 H)))
              go_roundg (gk - 1)
              case rel => exact ⟨by omega, by have := HJ.out; congr 1; omega, by rw [show vs.length - (gk - 1) = j + 1 by have := HJ.out; omega, HS1.out]; simp, by rw [show vs.length - (gk - 1) = j + 1 by have := HJ.out; omega, HS2.out]; simp, H⟩
              case measure => omega
            · go_wp2_with (first
                | (guard_target =~ Code.wp _ (Code.region 11 _ true) _ _ _; refine region_treeC0 11 (G := True) (.q 0 (.q 1 (.q 2 (.q 3 (.q 4 (.q 5 (.q 6 (.q 7 (.q 8 (.q 9 .nil)))))))))) (by kernel_rfl) (by intro c a d v w h; cases d <;> exact h) (by kernel_rfl) H ⟨trivial⟩ (fun _ w3 H2 => ?_); (clear H; (try clear w2); revert w3; intro w2 H))
                | (guard_target =~ wpList _ _ _ (_ :: _) _ _; (guard_target =~ wpList _ _ _ (Oper.mk _ (.load _ _) _ _ _ _ :: _) _ _; refine BigFrame.wpList_want rfl (fun K hK => ?_); (first | (refine o_load (v := ?_) (r := ?_) rfl rfl H ?_ ?_ ?_ (hK _ _ ?_); rotate_left 2; (with_reducible assumption); (repeat first | exact .head _ | apply List.Mem.tail); (focus (intro _; simp; done))) | (refine o_loadC (v := ?_) (row := ?_) rfl rfl H ?_ ?_ ?_ (hK _ _ ?_); rotate_left 2; (repeat first | exact .head _ | apply List.Mem.tail); (exact rfl); (focus (intro _; simp; done)))); clear hK K); simp only [Act.put, List.setIfInBounds_toArray, List.set_cons_succ, List.set_cons_zero])
                | (guard_target =~ wpTreeC _ _ _ _ _ _ _; first | (guard_target =~ wpTreeC _ _ _ (Tr.e _ Tr.nil) _ _ _; refine treeC_last (by decide +kernel) H rfl rfl (fun w3 H2 K hK => ?_); clear H; (try clear w2); (revert w3; intro w2 H); simp only [List.getElem_toArray, List.getElem_cons_succ, List.getElem_cons_zero]; (first | fail); simp only [Act.put, List.setIfInBounds_toArray, List.set_cons_succ, List.set_cons_zero]) | (guard_target =~ wpTreeC _ _ _ (Tr.q _ _) _ _ _; first | (refine treeC_quiet ⟨_, H, by repeat first | exact .here | apply Suf.there⟩ rfl rfl rfl (fun K hK => ?_); simp only [List.getElem_toArray, List.getElem_cons_succ, List.getElem_cons_zero]; first | (guard_target =~ Oper.quiet _ (Oper.mk _ (.load _ _) _ _ _ _) _ _ _; (first | (refine q_load (v := ?_) (r := ?_) rfl rfl ?_ ?_ ?_ (hK _ ?_); rotate_left 2; (with_reducible assumption); (repeat first | exact .head _ | apply List.Mem.tail); (focus (intro _; simp; done))) | (refine q_loadC (v := ?_) (row := ?_) rfl rfl ?_ ?_ ?_ (hK _ ?_); rotate_left 2; (repeat first | exact .head _ | apply List.Mem.tail); (exact rfl); (focus (intro _; simp; done))) | (refine q_loadNC (row := ?_) rfl rfl ?_ ?_ ?_ (hK _ ?_); rotate_left 1; (repeat first | exact .head _ | apply List.Mem.tail); (focus (intro _; simp; done)); (focus (intro _; simp; done)))); clear hK K; simp only [Act.put, List.setIfInBounds_toArray, List.set_cons_succ, List.set_cons_zero]) | (go_big_quiet_op; (try refine ⟨_, fun _ _ => rfl, ?_⟩); refine hK _ ?_; clear hK K)) | (refine treeC_call (v := ?_) ⟨_, H, by repeat first | exact .here | apply Suf.there⟩ rfl rfl (fun w3 H K hK => ?_) ?_; rotate_left 1; (focus (simp only [List.getElem_toArray, List.getElem_cons_succ, List.getElem_cons_zero]; first | (go_big_op; first | exact hK _ (Ext.refl _) | (go_at_call 15; (with_reducible refine (plain16_any _ _ _ _ _ _ _).mono ?_); rintro e w3 ⟨rfl, hb⟩; dsimp only; first | exact hK _ hb | exact hK _ (Ext.refl _)) | (go_at_call 27; (with_reducible refine (hdg1 _ _ (by exact H.giveRd m4 f9)).mono ?_); rintro e w3 ⟨rfl, hb⟩; dsimp only; first | exact hK _ hb | exact hK _ (Ext.refl _))))); simp only [List.getElem_toArray, List.getElem_cons_succ, List.getElem_cons_zero, Act.put, List.setIfInBounds_toArray, List.set_cons_succ, List.set_cons_zero]) | (refine treeC_skip ⟨_, H, by repeat first | exact .here | apply Suf.there⟩ rfl rfl ?_; simp only [List.getElem_toArray, List.getElem_cons_succ, List.getElem_cons_zero, Act.put, List.setIfInBounds_toArray, List.set_cons_succ, List.set_cons_zero])) | (guard_target =~ wpTreeC _ _ _ (Tr.both _ _) _ _ _; refine treeC_both ?_ ?_) | (guard_target =~ wpTreeC _ _ _ (Tr.e _ _) _ _ _; first | (refine treeC_one H rfl rfl (fun w3 H2 K hK => ?_); clear H; (try clear w2); (revert w3; intro w2 H); simp only [List.getElem_toArray, List.getElem_cons_succ, List.getElem_cons_zero]; first | ((first | fail); simp only [Act.put, List.setIfInBounds_toArray, List.set_cons_succ, List.set_cons_zero]) | (go_big_op; (first | fail))) | (refine treeC_one_skip (fun w3 hx => ⟨_, H.ext hx, by repeat first | exact .here | apply Suf.there⟩) rfl rfl (fun w3 hx => ?_); replace H := H.ext hx; clear hx; (try clear w2); revert w3; intro w2 H; simp only [List.getElem_toArray, List.getElem_cons_succ, List.getElem_cons_zero, Act.put, List.setIfInBounds_toArray, List.set_cons_succ, List.set_cons_zero])) | (guard_target =~ wpTreeC _ _ _ Tr.nil _ _ _; refine treeC_nil H (fun w3 H2 => ?_); clear H; (try clear w2); revert w3; intro w2 H)))
              go_roundg (gk - 1)
              case rel => exact ⟨by omega, by have := HJ.out; congr 1; omega, by rw [show vs.length - (gk - 1) = j + 1 by have := HJ.out; omega, HS1.out]; simp, by rw [show vs.length - (gk - 1) = j + 1 by have := HJ.out; omega, HS2.out]; simp, H⟩
              case measure => omega
        · obtain rfl : gk = 0 := by omega
          have hfin : cntB (hasE vs es) vs.length - (es.length : Int) + (Rn : Int) = 2 * cntB (fun i => hasE vs es i && (f i == i)) vs.length := by
            have h9 : ((List.range vs.length).filter (hasE vs es)).length + Rn = es.length + 2 * ((List.range vs.length).filter fun i => hasE vs es i && (f i == i)).length := HEU.out
            unfold cntB
            omega
          have hb1 := cntB_le (hasE vs es) vs.length
          have hb2 := cntB_le (fun i => hasE vs es i && (f i == i)) vs.length
          rw [Nat.sub_zero]
          generalize cntB (hasE vs es) vs.length = x1 at *
          generalize cntB (fun i => hasE vs es i && (f i == i)) vs.length = x2 at *
          have e1 : IntKind.i64.wrap (x1 - (es.length : Int)) = x1 - (es.length : Int) := IntWalk.i64_in _ (by omega)
          have e2 : IntKind.i64.wrap (x1 - (es.length : Int) + (Rn : Int)) = 2 * x2 := by rw [hfin]; exact IntWalk.i64_in _ (by omega)
          have e3 : IntKind.i64.wrap (2 * x2) = 2 * x2 := IntWalk.i64_in _ (by omega)
          clear hfin hb1 hb2
          go_wp2_with (guard_target =~ wpList _ _ _ (_ :: _) _ _; (guard_target =~ wpList _ _ _ (Oper.mk _ (.load _ _) _ _ _ _ :: _) _ _; refine BigFrame.wpList_want rfl (fun K hK => ?_); (refine o_loadC (v := ?_) (row := ?_) rfl rfl H ?_ ?_ ?_ (hK _ _ ?_); rotate_left 2; (repeat first | exact .head _ | apply List.Mem.tail); (exact rfl); (focus (intro _; simp; done))); clear hK K); simp only [Act.put, List.setIfInBounds_toArray, List.set_cons_succ, List.set_cons_zero])
          exact bodyPost_ret (v := .bool true) (by simp [results, Try.results6]) rfl ⟨rfl, H.below⟩
end Go.Proofs.Ytlhmjhildlnokaa

/-
  Two closed facts of a seat's program.
-/
namespace Go.Proofs.Ytlhmjhildlnokaa
theorem Try.own0 : ownKnob Try.prog.godebug = none := by kernel_rfl
theorem Try.laidOut : laidOutB Try.prog = true := by kernel_rfl
end Go.Proofs.Ytlhmjhildlnokaa

/-
  An argument that is an array of four integers. Nothing of the program stands here.
-/
namespace Go.Proofs.Ytlhmjhildlnokaa
set_option linter.unusedVariables false
open Go.RowKit Go.WideShapes Go.ChangeShapes
section
variable {H : Type} {enc : TypeId × Value → H} {P : Program} {w : World} {base : Nat} {spare : Nat → Bool} {held : Bool}
theorem open_arr4 {r : Reach} {b0 : Nat} {t e : TypeId} {q : IntKind} {v : Value} {d : DataW H} {p : List MemPlace} (hu : P.underlying t = some (.array 4 e)) (he : P.underlying e = some (.int q)) (hc : P.cellsOf e = 1) (hC : P.cellsOf t = 4)
    (hv : Value.okWide P w r b0 t v) (h : DataW.Trod enc P w base spare held t v d p) :
    ∃ a b c x : Int, v = .agg #[.int q a, .int q b, .int q c, .int q x] ∧ (Lit.int q a).wf = true ∧ (Lit.int q b).wf = true ∧ (Lit.int q c).wf = true ∧ (Lit.int q x).wf = true := by
  simp only [Value.okWide, hu] at hv
  obtain ⟨cs, rfl, hsz, _⟩ := hv
  rw [hC] at hsz
  obtain ⟨c0, c1, c2, c3, rfl⟩ : ∃ c0 c1 c2 c3, cs = #[c0, c1, c2, c3] := by
    obtain ⟨l⟩ := cs
    match l, hsz with
    | [c0, c1, c2, c3], _ => exact ⟨c0, c1, c2, c3, rfl⟩
  obtain ⟨fuel, hf⟩ := h
  cases fuel with
  | zero => simp [DataW.trod] at hf
  | succ m =>
    rw [DataW.trod_step] at hf
    unfold DataW.trodStep at hf
    simp only [hu, Value.cells] at hf
    rw [if_pos (by rw [hC]; rfl), hc] at hf
    simp only [Option.map_eq_some_iff] at hf
    obtain ⟨ys, hy, _⟩ := hf
    have hr : List.range 4 = [0, 1, 2, 3] := rfl
    rw [hr] at hy
    simp only [List.mapM_cons, bind, Option.bind_eq_some_iff] at hy
    obtain ⟨y0, h0, _, ⟨y1, h1, _, ⟨y2, h2, _, ⟨y3, h3, _⟩, _⟩, _⟩, _⟩ := hy
    obtain ⟨a, ea, _, wa⟩ := DataW.trod_int he h0
    obtain ⟨b, eb, _, wb⟩ := DataW.trod_int he h1
    obtain ⟨c, ec, _, wc⟩ := DataW.trod_int he h2
    obtain ⟨x, ex, _, wx⟩ := DataW.trod_int he h3
    simp at ea eb ec ex
    subst ea eb ec ex
    exact ⟨a, b, c, x, rfl, wa, wb, wc, wx⟩
end
end Go.Proofs.Ytlhmjhildlnokaa

/-
  The statement SpinCounts, proved: for every input the law answers true, and each argument reads behind the call as it did. No condition.
-/
namespace Go.Proofs.Ytlhmjhildlnokaa
namespace spinCounts
open Go.ChangeShapes Go.WideShapes Go.ChangeAt Go.RowKit
open Go.ChangeMaps (open_string)
set_option maxRecDepth 100000 in
theorem lifted (os : Os) (started : os.Started) (H : Type) (enc : TypeId × Value → H) :
    ReturnsInHanded {} Try.checked os 6 .any (Rows.spinCountsSpec.pre6 enc Try.prog Try.f6 Rows.spinCountsRow.domain false) (Rows.spinCountsSpec.post enc Try.prog Try.f6 false true false false) := by
  refine returnsInHanded_of_change (C := Try.checked) Try.own0 started (by kernel_rfl) Try.func6
    (ChangeSpec.witness6 (enc := enc) (C := Try.checked) false ⟨#[], #[.agg #[.slice none 0 0, .slice none 0 0]], []⟩ 8 (by kernel_rfl) (by kernel_rfl) (by kernel_rfl) (by kernel_rfl)) ?_
  intro W base args ds gs before hval0 hW _ _
  have hval : ∀ (j : Nat) t v, Try.f6.params[j]? = some t → args[j]? = some v → Value.okWide Try.prog W .any base t v := hval0
  refine law_calls Try.laidOut (by kernel_rfl) rfl rfl Try.underlying4 (fun ds h => by match ds, h with | [_], _ => rfl) hW ?_
  obtain ⟨p, q, hA0, _, _, _, _⟩ := hW
  have hA : DataW.TrodAll enc Try.prog W 0 (fun _ => true) true Try.f6.params.toList args.toList ds p := hA0
  rw [Try.params6] at hA hval
  obtain ⟨v0, vs0, d0, ds0, p0, q0, hargs, rfl, rfl, h0, r0⟩ := trodAll_cons hA
  obtain ⟨rfl, rfl, rfl⟩ := trodAll_nil r0
  obtain rfl : args = #[v0] := by cases args; simp_all
  obtain ⟨A0, B0, c0, e0, vs0_, es0_, rfl, pl0⟩ := open_plan (hval 0 25 v0 rfl rfl) h0
  exact law_SpinCounts A0 B0 c0 e0 vs0_ es0_ W pl0
set_option maxRecDepth 100000 in
set_option maxHeartbeats 4000000 in
theorem closed : joinedFacts Try.pinned.checked.prog 6 Try.f6 Rows.spinCountsSpec Rows.spinCountsRow = true := by
  have key : ∀ P : Program, P = Try.pinned.checked.prog → joinedFacts P 6 Try.f6 Rows.spinCountsSpec Rows.spinCountsRow = true := by
    intro P hP
    unfold joinedFacts
    simp only [Bool.and_eq_true]
    repeat' apply And.intro
    all_goals first
      | (guard_target =~ Program.mayEnter _ = true; rw [hP]; exact may_enter)
      | (guard_target =~ (_ == Program.liftsFinal _) = true; rw [hP, lifts_final]; rfl)
      | (guard_target =~ (Program.make _ == _) = true; rw [hP, make_cut]; rfl)
      | (rw [hP]; as_aux_lemma => kernel_rfl)
      | (as_aux_lemma => kernel_rfl)
  exact key _ rfl
theorem over : Rows.spinCountsRow.holds Try.pinned (OpenSpec.ofChange Rows.spinCountsSpec) :=
  OpenClaim.holds_of_wide 6 Try.f6 rfl rfl rfl rfl rfl rfl rfl ⟨rfl, rfl, rfl, rfl, rfl⟩ rfl rfl rfl rfl rfl (by kernel_rfl) Try.func6 closed
    (of_decide_eq_true (by kernel_rfl)) (by unfold Func.isWrapper; first | (rw [if_pos (by decide +kernel)]; kernel_rfl) | (rw [if_neg (by decide +kernel)]; exact ⟨rfl, rfl⟩))
    (fun os started H enc _ => lifted os started H enc)
theorem proved : Rows.SpinCountsSaid :=
  over
end spinCounts
end Go.Proofs.Ytlhmjhildlnokaa
