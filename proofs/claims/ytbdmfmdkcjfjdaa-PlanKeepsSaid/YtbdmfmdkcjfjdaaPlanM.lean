/-
  Plans: the plain law. What may be done is what the document says. No walk stands here.
-/
import Derived.Test.YtbdmfmdkcjfjdaaPlan8
import Derived.Test.YtbdmfmdkcjfjdaaPlan9
import Derived.Test.YtbdmfmdkcjfjdaaPlanL
namespace Go.Proofs.Ytbdmfmdkcjfjdaa
set_option linter.unusedVariables false
set_option linter.unusedSimpArgs false

theorem vtP_rpt (vs : List Vt) (id : Int) : vtP (vs.find? fun v => v.id == id) = rpt vs id := rfl
theorem any_congr' {α : Type} {l : List α} {f g : α → Bool} (h : ∀ a ∈ l, f a = g a) : l.any f = l.any g := by
  rw [Bool.eq_iff_iff, List.any_eq_true, List.any_eq_true]
  constructor
  · rintro ⟨a, ha, h1⟩; exact ⟨a, ha, by rw [← h a ha]; exact h1⟩
  · rintro ⟨a, ha, h1⟩; exact ⟨a, ha, by rw [h a ha]; exact h1⟩
theorem right_P {vs : List Vt} {es : List Eg} (h : rightR vs es = true) : RightP vs es := (right_iff vs es).1 h
theorem right_ends {vs : List Vt} {es : List Eg} (h : RightP vs es) : EndsIn vs es := fun e he => (h.each e he).2.1
theorem cut_same (vs : List Vt) (es : List Eg) (id : Int) : canCutZ vs es id = canCutR vs es id := by
  unfold canCutZ canCutR; rw [right_same]
theorem drop_same (vs : List Vt) (es : List Eg) (id : Int) : canDropZ vs es id = canDropR vs es id := by
  unfold canDropZ canDropR; rw [right_same]
theorem split_same (vs : List Vt) (es : List Eg) (id : Int) (p : Pt) : canSplitZ vs es id p = canSplitR vs es id p := by
  unfold canSplitZ canSplitR
  rw [right_same]
  by_cases hr : rightR vs es = false
  · rw [if_pos hr, if_pos hr]
  · rw [if_neg hr, if_neg hr]
    have hR := right_P (by simpa using hr)
    cases he : es.find? fun v => v.id == id with
    | none => rfl
    | some e =>
      have hm := right_ends hR e (List.mem_of_find?_eq_some he)
      cases hp : inB p with
      | false =>
        have e1 : onB p (vtP (vs.find? fun v => v.id == e.a)) (vtP (vs.find? fun v => v.id == e.b)) = false := by unfold onB; rw [hp]; rfl
        simp only [e1, if_true]
      | true =>
        have e1 : onB p (vtP (vs.find? fun v => v.id == e.a)) (vtP (vs.find? fun v => v.id == e.b)) = onR p (rpt vs e.a) (rpt vs e.b) := onB_R hp (rpt_in hR.verts hm.2.1) (rpt_in hR.verts hm.2.2)
        simp only [e1]
        simp
theorem add_same (vs : List Vt) (es : List Eg) (p : Pt) : canAddZ vs es p = canAddR vs es p := by
  unfold canAddZ canAddR
  rw [right_same]
  by_cases hr : rightR vs es = false
  · rw [if_pos hr, if_pos hr]
  · rw [if_neg hr, if_neg hr]
    have hR := right_P (by simpa using hr)
    cases hp : inB p with
    | false => rfl
    | true =>
      have : (es.any fun e => onB p (atP vs e.a) (atP vs e.b)) = es.any fun e => onR p (rpt vs e.a) (rpt vs e.b) := any_congr' fun e he => by
        have hm := right_ends hR e he
        rw [atP_rpt hR.verts, atP_rpt hR.verts]
        exact onB_R hp (rpt_in hR.verts hm.2.1) (rpt_in hR.verts hm.2.2)
      rw [this]
theorem links_same (es : List Eg) (a b : Int) : es.any (samePair a b) = linksB es a b := any_congr' fun e _ => pair_same a b e.a e.b
theorem link_same (vs : List Vt) (es : List Eg) (a b : Int) : canLinkZ vs es a b = canLinkR vs es a b := by
  unfold canLinkZ canLinkR
  rw [right_same]
  by_cases hr : rightR vs es = false ∨ (a == b) = true
  · rw [if_pos hr, if_pos hr]
  · rw [if_neg hr, if_neg hr]
    have hR := right_P (vs := vs) (es := es) (by
      cases h : rightR vs es with
      | false => exact absurd (Or.inl h) hr
      | true => rfl)
    have hab : a ≠ b := fun e => hr (Or.inr (by simpa using e))
    cases hx : vs.find? fun v => v.id == a with
    | none => simp [canLinkT]
    | some v =>
      cases hy : vs.find? fun v => v.id == b with
      | none => simp [canLinkT]
      | some w =>
        have ix : (vs.find? fun v => v.id == a).isSome = true := by rw [hx]; rfl
        have iy : (vs.find? fun v => v.id == b).isSome = true := by rw [hy]; rfl
        have ev : v.p = rpt vs a := by unfold rpt; rw [hx]; rfl
        have ew : w.p = rpt vs b := by unfold rpt; rw [hy]; rfl
        simp only [canLinkT, links_same, ev, ew, Option.isSome_some]
        rw [onWay_R hR.verts (rpt_in hR.verts ix) (rpt_in hR.verts iy), cross_R hR.verts (right_ends hR) (rpt_in hR.verts ix) (rpt_in hR.verts iy) (rpt_ne hR.verts hab ix iy)]
        simp
end Go.Proofs.Ytbdmfmdkcjfjdaa
