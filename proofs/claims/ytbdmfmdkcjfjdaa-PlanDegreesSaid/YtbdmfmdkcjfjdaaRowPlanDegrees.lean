/-
  The statement PlanDegrees, proved: for every input the law answers true, and each argument reads behind the call as it did. No condition.
-/
import Derived.Test.YtbdmfmdkcjfjdaaLaw15e
import Derived.Test.YtbdmfmdkcjfjdaaRowBase
import Derived.Test.YtbdmfmdkcjfjdaaOpenArr
import Derived.Test.YtbdmfmdkcjfjdaaSigns
namespace Go.Proofs.Ytbdmfmdkcjfjdaa
namespace planDegrees
open Go.ChangeShapes Go.WideShapes Go.ChangeAt Go.RowKit
open Go.ChangeMaps (open_string)
set_option maxRecDepth 100000 in
theorem lifted (os : Os) (started : os.Started) (H : Type) (enc : TypeId × Value → H) :
    ReturnsInHanded {} Try.checked os 5 .any (Rows.planDegreesSpec.pre6 enc Try.prog Try.f5 Rows.planDegreesRow.domain false) (Rows.planDegreesSpec.post enc Try.prog Try.f5 false true false false) := by
  refine returnsInHanded_of_change (C := Try.checked) Try.own0 started (by kernel_rfl) Try.func5
    (ChangeSpec.witness6 (enc := enc) (C := Try.checked) false ⟨#[], #[.agg #[.slice none 0 0, .slice none 0 0], .int .i64 0], []⟩ 8 (by kernel_rfl) (by kernel_rfl) (by kernel_rfl) (by kernel_rfl)) ?_
  intro W base args ds gs before hval0 hW _ _
  have hval : ∀ (j : Nat) t v, Try.f5.params[j]? = some t → args[j]? = some v → Value.okWide Try.prog W .any base t v := hval0
  refine law_calls Try.laidOut (by kernel_rfl) rfl rfl Try.underlying4 (fun ds h => by match ds, h with | [_, _], _ => rfl) hW ?_
  obtain ⟨p, q, hA0, _, _, _, _⟩ := hW
  have hA : DataW.TrodAll enc Try.prog W 0 (fun _ => true) true Try.f5.params.toList args.toList ds p := hA0
  rw [Try.params5] at hA hval
  obtain ⟨v0, vs0, d0, ds0, p0, q0, hargs, rfl, rfl, h0, r0⟩ := trodAll_cons hA
  obtain ⟨v1, vs1, d1, ds1, p1, q1, rfl, rfl, rfl, h1, r1⟩ := trodAll_cons r0
  obtain ⟨rfl, rfl, rfl⟩ := trodAll_nil r1
  obtain rfl : args = #[v0, v1] := by cases args; simp_all
  obtain ⟨A0, B0, c0, e0, vs0_, es0_, rfl, pl0⟩ := open_plan (hval 0 25 v0 rfl rfl) h0
  obtain ⟨id, rfl, rfl, rfl, w1⟩ := open_int Try.underlying3 (hval 1 3 v1 rfl rfl) h1
  exact law_PlanDegrees A0 B0 c0 e0 vs0_ es0_ id W pl0
set_option maxRecDepth 100000 in
theorem closed : joinedFacts Try.pinned.checked.prog 5 Try.f5 Rows.planDegreesSpec Rows.planDegreesRow = true := by
  have key : ∀ P : Program, P = Try.pinned.checked.prog → joinedFacts P 5 Try.f5 Rows.planDegreesSpec Rows.planDegreesRow = true := by
    intro P hP
    unfold joinedFacts
    simp only [Bool.and_eq_true]
    repeat' apply And.intro
    all_goals first
      | (guard_target =~ Program.mayEnter _ = true; rw [hP]; exact may_enter)
      | (guard_target =~ (_ == Program.liftsFinal _) = true; rw [hP, lifts_final]; rfl)
      | (guard_target =~ (Program.make _ == _) = true; rw [hP, make_cut]; rfl)
      | (rw [hP]; as_aux_lemma => kernel_rfl)
      | (as_aux_lemma => kernel_rfl)
  exact key _ rfl
theorem over : Rows.planDegreesRow.holds Try.pinned (OpenSpec.ofChange Rows.planDegreesSpec) :=
  OpenClaim.holds_of_wide 5 Try.f5 rfl rfl rfl rfl rfl rfl rfl ⟨rfl, rfl, rfl, rfl, rfl⟩ rfl rfl rfl rfl rfl (by kernel_rfl) Try.func5 closed
    (of_decide_eq_true (by kernel_rfl)) (by unfold Func.isWrapper; first | (rw [if_pos (by decide +kernel)]; kernel_rfl) | (rw [if_neg (by decide +kernel)]; exact ⟨rfl, rfl⟩))
    (fun os started H enc _ => lifted os started H enc)
theorem proved : Rows.PlanDegreesSaid :=
  over
end planDegrees
end Go.Proofs.Ytbdmfmdkcjfjdaa
