/-
  The statement DeedVertices, proved: for every input the law answers true, and each argument reads behind the call as it did. No condition.
-/
import Derived.Test.YtbpclhgbobiahaaLaw20
import Derived.Test.YtbpclhgbobiahaaRowBase
import Derived.Test.YtbpclhgbobiahaaOpenArr
import Derived.Test.YtbpclhgbobiahaaSigns
namespace Go.Proofs.Ytbpclhgbobiahaa
namespace deedVertices
open Go.ChangeShapes Go.WideShapes Go.ChangeAt Go.RowKit
open Go.ChangeMaps (open_string)
set_option maxRecDepth 100000 in
theorem lifted (os : Os) (started : os.Started) (H : Type) (enc : TypeId × Value → H) :
    ReturnsInHanded {} Try.checked os 3 .any (Rows.deedVerticesSpec.pre6 enc Try.prog Try.f3 Rows.deedVerticesRow.domain false) (Rows.deedVerticesSpec.post enc Try.prog Try.f3 false true false false) := by
  refine returnsInHanded_of_change (C := Try.checked) Try.own0 started (by kernel_rfl) Try.func3
    (ChangeSpec.witness6 (enc := enc) (C := Try.checked) false ⟨#[], #[.agg #[.int .i64 0, .int .i64 0, .int .i64 0, .int .i64 0]], []⟩ 8 (by kernel_rfl) (by kernel_rfl) (by kernel_rfl) (by kernel_rfl)) ?_
  intro W base args ds gs before hval0 hW _ _
  have hval : ∀ (j : Nat) t v, Try.f3.params[j]? = some t → args[j]? = some v → Value.okWide Try.prog W .any base t v := hval0
  refine law_calls Try.laidOut (by kernel_rfl) rfl rfl Try.underlying4 (fun ds h => by match ds, h with | [_], _ => rfl) hW ?_
  obtain ⟨p, q, hA0, _, _, _, _⟩ := hW
  have hA : DataW.TrodAll enc Try.prog W 0 (fun _ => true) true Try.f3.params.toList args.toList ds p := hA0
  rw [Try.params3] at hA hval
  obtain ⟨v0, vs0, d0, ds0, p0, q0, hargs, rfl, rfl, h0, r0⟩ := trodAll_cons hA
  obtain ⟨rfl, rfl, rfl⟩ := trodAll_nil r0
  obtain rfl : args = #[v0] := by cases args; simp_all
  obtain ⟨id, x, y, face, rfl, _, wx, wy, wf⟩ := open_vr (hval 0 25 v0 rfl rfl) h0
  exact law_DeedVertices id x y face W wx.1 wx.2 wy.1 wy.2 wf.1 wf.2
set_option maxRecDepth 100000 in
theorem closed : joinedFacts Try.pinned.checked.prog 3 Try.f3 Rows.deedVerticesSpec Rows.deedVerticesRow = true := by
  have key : ∀ P : Program, P = Try.pinned.checked.prog → joinedFacts P 3 Try.f3 Rows.deedVerticesSpec Rows.deedVerticesRow = true := by
    intro P hP
    unfold joinedFacts
    simp only [Bool.and_eq_true]
    repeat' apply And.intro
    all_goals first
      | (guard_target =~ Program.mayEnter _ = true; rw [hP]; exact may_enter)
      | (guard_target =~ (_ == Program.liftsFinal _) = true; rw [hP, lifts_final]; rfl)
      | (guard_target =~ (Program.make _ == _) = true; rw [hP, make_cut]; rfl)
      | (rw [hP]; as_aux_lemma => kernel_rfl)
      | (as_aux_lemma => kernel_rfl)
  exact key _ rfl
theorem over : Rows.deedVerticesRow.holds Try.pinned (OpenSpec.ofChange Rows.deedVerticesSpec) :=
  OpenClaim.holds_of_wide 3 Try.f3 rfl rfl rfl rfl rfl rfl rfl ⟨rfl, rfl, rfl, rfl, rfl⟩ rfl rfl rfl rfl rfl (by kernel_rfl) Try.func3 closed
    (of_decide_eq_true (by kernel_rfl)) (by unfold Func.isWrapper; first | (rw [if_pos (by decide +kernel)]; kernel_rfl) | (rw [if_neg (by decide +kernel)]; exact ⟨rfl, rfl⟩))
    (fun os started H enc _ => lifted os started H enc)
theorem proved : Rows.DeedVerticesSaid :=
  over
end deedVertices
end Go.Proofs.Ytbpclhgbobiahaa
