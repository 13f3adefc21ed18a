/-
  The statement RatioBack, proved: for every input the law answers true, and each argument reads behind the call as it did. No condition.
-/
import Derived.Test.YtdgpdafkngoegaaLaw04b
import Derived.Test.YtdgpdafkngoegaaRatV
import Derived.Test.YtdgpdafkngoegaaOpenArr
import Derived.Test.YtdgpdafkngoegaaSigns
namespace Go.Proofs.Ytdgpdafkngoegaa
namespace ratioBack
open Go.ChangeShapes Go.WideShapes Go.ChangeAt Go.RowKit
open Go.ChangeMaps (open_string)
set_option maxRecDepth 100000 in
theorem lifted (os : Os) (started : os.Started) (H : Type) (enc : TypeId × Value → H) :
    ReturnsInHanded {} Try.checked os 30 .any (Rows.ratioBackSpec.pre6 enc Try.prog Try.f30 Rows.ratioBackRow.domain false) (Rows.ratioBackSpec.post enc Try.prog Try.f30 false true false false) := by
  refine returnsInHanded_of_change (C := Try.checked) Try.own0 started (by kernel_rfl) Try.func30
    (ChangeSpec.witness6 (enc := enc) (C := Try.checked) false ⟨#[], #[.agg #[.int .u64 0, .int .u64 0, .int .u64 0, .int .u64 0, .int .u64 0, .int .u64 0, .int .u64 0, .int .u64 0], .agg #[.int .u64 0, .int .u64 0, .int .u64 0, .int .u64 0, .int .u64 0, .int .u64 0, .int .u64 0, .int .u64 0]], []⟩ 8 (by kernel_rfl) (by kernel_rfl) (by kernel_rfl) (by kernel_rfl)) ?_
  intro W base args ds gs before hval0 hW _ _
  have hval : ∀ (j : Nat) t v, Try.f30.params[j]? = some t → args[j]? = some v → Value.okWide Try.prog W .any base t v := hval0
  refine law_calls Try.laidOut (by kernel_rfl) rfl rfl Try.underlying4 (fun ds h => by match ds, h with | [_, _], _ => rfl) hW ?_
  obtain ⟨p, q, hA0, _, _, _, _⟩ := hW
  have hA : DataW.TrodAll enc Try.prog W 0 (fun _ => true) true Try.f30.params.toList args.toList ds p := hA0
  rw [Try.params30] at hA hval
  obtain ⟨v0, vs0, d0, ds0, p0, q0, hargs, rfl, rfl, h0, r0⟩ := trodAll_cons hA
  obtain ⟨v1, vs1, d1, ds1, p1, q1, rfl, rfl, rfl, h1, r1⟩ := trodAll_cons r0
  obtain ⟨rfl, rfl, rfl⟩ := trodAll_nil r1
  obtain rfl : args = #[v0, v1] := by cases args; simp_all
  obtain ⟨aa0, ab0, ac0, ad0, ba0, bb0, bc0, bd0, rfl, waa0, wab0, wac0, wad0, wba0, wbb0, wbc0, wbd0⟩ := open_rat Try.underlying64 (by kernel_rfl) Try.underlying24 Try.underlying22 (by kernel_rfl) (by kernel_rfl) (by kernel_rfl) (hval 0 64 v0 rfl rfl) h0
  have uaa0 : Wd aa0 := ⟨(bounds_u64 waa0).1, (bounds_u64 waa0).2⟩
  have uab0 : Wd ab0 := ⟨(bounds_u64 wab0).1, (bounds_u64 wab0).2⟩
  have uac0 : Wd ac0 := ⟨(bounds_u64 wac0).1, (bounds_u64 wac0).2⟩
  have uad0 : Wd ad0 := ⟨(bounds_u64 wad0).1, (bounds_u64 wad0).2⟩
  have uba0 : Wd ba0 := ⟨(bounds_u64 wba0).1, (bounds_u64 wba0).2⟩
  have ubb0 : Wd bb0 := ⟨(bounds_u64 wbb0).1, (bounds_u64 wbb0).2⟩
  have ubc0 : Wd bc0 := ⟨(bounds_u64 wbc0).1, (bounds_u64 wbc0).2⟩
  have ubd0 : Wd bd0 := ⟨(bounds_u64 wbd0).1, (bounds_u64 wbd0).2⟩
  rw [← rV_sv uaa0 uab0 uac0 uad0 uba0 ubb0 ubc0 ubd0]
  obtain ⟨aa1, ab1, ac1, ad1, ba1, bb1, bc1, bd1, rfl, waa1, wab1, wac1, wad1, wba1, wbb1, wbc1, wbd1⟩ := open_rat Try.underlying64 (by kernel_rfl) Try.underlying24 Try.underlying22 (by kernel_rfl) (by kernel_rfl) (by kernel_rfl) (hval 1 64 v1 rfl rfl) h1
  have uaa1 : Wd aa1 := ⟨(bounds_u64 waa1).1, (bounds_u64 waa1).2⟩
  have uab1 : Wd ab1 := ⟨(bounds_u64 wab1).1, (bounds_u64 wab1).2⟩
  have uac1 : Wd ac1 := ⟨(bounds_u64 wac1).1, (bounds_u64 wac1).2⟩
  have uad1 : Wd ad1 := ⟨(bounds_u64 wad1).1, (bounds_u64 wad1).2⟩
  have uba1 : Wd ba1 := ⟨(bounds_u64 wba1).1, (bounds_u64 wba1).2⟩
  have ubb1 : Wd bb1 := ⟨(bounds_u64 wbb1).1, (bounds_u64 wbb1).2⟩
  have ubc1 : Wd bc1 := ⟨(bounds_u64 wbc1).1, (bounds_u64 wbc1).2⟩
  have ubd1 : Wd bd1 := ⟨(bounds_u64 wbd1).1, (bounds_u64 wbd1).2⟩
  rw [← rV_sv uaa1 uab1 uac1 uad1 uba1 ubb1 ubc1 ubd1]
  exact law_RatioBack (sv aa0 ab0 ac0 ad0) (sv ba0 bb0 bc0 bd0) (sv aa1 ab1 ac1 ad1) (sv ba1 bb1 bc1 bd1) W (sv_range uaa0 uab0 uac0 uad0) (sv_range uba0 ubb0 ubc0 ubd0) (sv_range uaa1 uab1 uac1 uad1) (sv_range uba1 ubb1 ubc1 ubd1)
set_option maxRecDepth 100000 in
theorem closed : joinedFacts Try.pinned.checked.prog 30 Try.f30 Rows.ratioBackSpec Rows.ratioBackRow = true := by
  have key : ∀ P : Program, P = Try.pinned.checked.prog → joinedFacts P 30 Try.f30 Rows.ratioBackSpec Rows.ratioBackRow = true := by
    intro P hP
    unfold joinedFacts
    simp only [Bool.and_eq_true]
    repeat' apply And.intro
    all_goals first
      | (guard_target =~ Program.mayEnter _ = true; rw [hP]; exact may_enter)
      | (guard_target =~ (_ == Program.liftsFinal _) = true; rw [hP, lifts_final]; rfl)
      | (guard_target =~ (Program.make _ == _) = true; rw [hP, make_cut]; rfl)
      | (rw [hP]; as_aux_lemma => kernel_rfl)
      | (as_aux_lemma => kernel_rfl)
  exact key _ rfl
theorem over : Rows.ratioBackRow.holds Try.pinned (OpenSpec.ofChange Rows.ratioBackSpec) :=
  OpenClaim.holds_of_wide 30 Try.f30 rfl rfl rfl rfl rfl rfl rfl ⟨rfl, rfl, rfl, rfl, rfl⟩ rfl rfl rfl rfl rfl (by kernel_rfl) Try.func30 closed
    (of_decide_eq_true (by kernel_rfl)) (by unfold Func.isWrapper; first | (rw [if_pos (by decide +kernel)]; kernel_rfl) | (rw [if_neg (by decide +kernel)]; exact ⟨rfl, rfl⟩))
    (fun os started H enc _ => lifted os started H enc)
theorem proved : Rows.RatioBackSaid :=
  over
end ratioBack
end Go.Proofs.Ytdgpdafkngoegaa
