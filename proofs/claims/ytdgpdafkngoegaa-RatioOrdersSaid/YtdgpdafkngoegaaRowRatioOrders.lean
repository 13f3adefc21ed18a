/-
  The statement RatioOrders, proved: for every input the law answers true, and each argument reads behind the call as it did. No condition.
-/
import Derived.Test.YtdgpdafkngoegaaLaw04o
import Derived.Test.YtdgpdafkngoegaaRatV
import Derived.Test.YtdgpdafkngoegaaOpenArr
import Derived.Test.YtdgpdafkngoegaaSigns
namespace Go.Proofs.Ytdgpdafkngoegaa
namespace ratioOrders
open Go.ChangeShapes Go.WideShapes Go.ChangeAt Go.RowKit
open Go.ChangeMaps (open_string)
set_option maxRecDepth 100000 in
theorem lifted (os : Os) (started : os.Started) (H : Type) (enc : TypeId × Value → H) :
    ReturnsInHanded {} Try.checked os 29 .any (Rows.ratioOrdersSpec.pre6 enc Try.prog Try.f29 Rows.ratioOrdersRow.domain false) (Rows.ratioOrdersSpec.post enc Try.prog Try.f29 false true false false) := by
  refine returnsInHanded_of_change (C := Try.checked) Try.own0 started (by kernel_rfl) Try.func29
    (ChangeSpec.witness6 (enc := enc) (C := Try.checked) false ⟨#[], #[.agg #[.int .u64 0, .int .u64 0, .int .u64 0, .int .u64 0, .int .u64 0, .int .u64 0, .int .u64 0, .int .u64 0], .agg #[.int .u64 0, .int .u64 0, .int .u64 0, .int .u64 0, .int .u64 0, .int .u64 0, .int .u64 0, .int .u64 0], .agg #[.int .u64 0, .int .u64 0, .int .u64 0, .int .u64 0, .int .u64 0, .int .u64 0, .int .u64 0, .int .u64 0]], []⟩ 8 (by kernel_rfl) (by kernel_rfl) (by kernel_rfl) (by kernel_rfl)) ?_
  intro W base args ds gs before hval0 hW _ _
  have hval : ∀ (j : Nat) t v, Try.f29.params[j]? = some t → args[j]? = some v → Value.okWide Try.prog W .any base t v := hval0
  refine law_calls Try.laidOut (by kernel_rfl) rfl rfl Try.underlying4 (fun ds h => by match ds, h with | [_, _, _], _ => rfl) hW ?_
  obtain ⟨p, q, hA0, _, _, _, _⟩ := hW
  have hA : DataW.TrodAll enc Try.prog W 0 (fun _ => true) true Try.f29.params.toList args.toList ds p := hA0
  rw [Try.params29] at hA hval
  obtain ⟨v0, vs0, d0, ds0, p0, q0, hargs, rfl, rfl, h0, r0⟩ := trodAll_cons hA
  obtain ⟨v1, vs1, d1, ds1, p1, q1, rfl, rfl, rfl, h1, r1⟩ := trodAll_cons r0
  obtain ⟨v2, vs2, d2, ds2, p2, q2, rfl, rfl, rfl, h2, r2⟩ := trodAll_cons r1
  obtain ⟨rfl, rfl, rfl⟩ := trodAll_nil r2
  obtain rfl : args = #[v0, v1, v2] := by cases args; simp_all
  obtain ⟨aa0, ab0, ac0, ad0, ba0, bb0, bc0, bd0, rfl, waa0, wab0, wac0, wad0, wba0, wbb0, wbc0, wbd0⟩ := open_rat Try.underlying64 (by kernel_rfl) Try.underlying24 Try.underlying22 (by kernel_rfl) (by kernel_rfl) (by kernel_rfl) (hval 0 64 v0 rfl rfl) h0
  have uaa0 : Wd aa0 := ⟨(bounds_u64 waa0).1, (bounds_u64 waa0).2⟩
  have uab0 : Wd ab0 := ⟨(bounds_u64 wab0).1, (bounds_u64 wab0).2⟩
  have uac0 : Wd ac0 := ⟨(bounds_u64 wac0).1, (bounds_u64 wac0).2⟩
  have uad0 : Wd ad0 := ⟨(bounds_u64 wad0).1, (bounds_u64 wad0).2⟩
  have uba0 : Wd ba0 := ⟨(bounds_u64 wba0).1, (bounds_u64 wba0).2⟩
  have ubb0 : Wd bb0 := ⟨(bounds_u64 wbb0).1, (bounds_u64 wbb0).2⟩
  have ubc0 : Wd bc0 := ⟨(bounds_u64 wbc0).1, (bounds_u64 wbc0).2⟩
  have ubd0 : Wd bd0 := ⟨(bounds_u64 wbd0).1, (bounds_u64 wbd0).2⟩
  rw [← rV_sv uaa0 uab0 uac0 uad0 uba0 ubb0 ubc0 ubd0]
  obtain ⟨aa1, ab1, ac1, ad1, ba1, bb1, bc1, bd1, rfl, waa1, wab1, wac1, wad1, wba1, wbb1, wbc1, wbd1⟩ := open_rat Try.underlying64 (by kernel_rfl) Try.underlying24 Try.underlying22 (by kernel_rfl) (by kernel_rfl) (by kernel_rfl) (hval 1 64 v1 rfl rfl) h1
  have uaa1 : Wd aa1 := ⟨(bounds_u64 waa1).1, (bounds_u64 waa1).2⟩
  have uab1 : Wd ab1 := ⟨(bounds_u64 wab1).1, (bounds_u64 wab1).2⟩
  have uac1 : Wd ac1 := ⟨(bounds_u64 wac1).1, (bounds_u64 wac1).2⟩
  have uad1 : Wd ad1 := ⟨(bounds_u64 wad1).1, (bounds_u64 wad1).2⟩
  have uba1 : Wd ba1 := ⟨(bounds_u64 wba1).1, (bounds_u64 wba1).2⟩
  have ubb1 : Wd bb1 := ⟨(bounds_u64 wbb1).1, (bounds_u64 wbb1).2⟩
  have ubc1 : Wd bc1 := ⟨(bounds_u64 wbc1).1, (bounds_u64 wbc1).2⟩
  have ubd1 : Wd bd1 := ⟨(bounds_u64 wbd1).1, (bounds_u64 wbd1).2⟩
  rw [← rV_sv uaa1 uab1 uac1 uad1 uba1 ubb1 ubc1 ubd1]
  obtain ⟨aa2, ab2, ac2, ad2, ba2, bb2, bc2, bd2, rfl, waa2, wab2, wac2, wad2, wba2, wbb2, wbc2, wbd2⟩ := open_rat Try.underlying64 (by kernel_rfl) Try.underlying24 Try.underlying22 (by kernel_rfl) (by kernel_rfl) (by kernel_rfl) (hval 2 64 v2 rfl rfl) h2
  have uaa2 : Wd aa2 := ⟨(bounds_u64 waa2).1, (bounds_u64 waa2).2⟩
  have uab2 : Wd ab2 := ⟨(bounds_u64 wab2).1, (bounds_u64 wab2).2⟩
  have uac2 : Wd ac2 := ⟨(bounds_u64 wac2).1, (bounds_u64 wac2).2⟩
  have uad2 : Wd ad2 := ⟨(bounds_u64 wad2).1, (bounds_u64 wad2).2⟩
  have uba2 : Wd ba2 := ⟨(bounds_u64 wba2).1, (bounds_u64 wba2).2⟩
  have ubb2 : Wd bb2 := ⟨(bounds_u64 wbb2).1, (bounds_u64 wbb2).2⟩
  have ubc2 : Wd bc2 := ⟨(bounds_u64 wbc2).1, (bounds_u64 wbc2).2⟩
  have ubd2 : Wd bd2 := ⟨(bounds_u64 wbd2).1, (bounds_u64 wbd2).2⟩
  rw [← rV_sv uaa2 uab2 uac2 uad2 uba2 ubb2 ubc2 ubd2]
  exact law_RatioOrders (sv aa0 ab0 ac0 ad0) (sv ba0 bb0 bc0 bd0) (sv aa1 ab1 ac1 ad1) (sv ba1 bb1 bc1 bd1) (sv aa2 ab2 ac2 ad2) (sv ba2 bb2 bc2 bd2) W (sv_range uaa0 uab0 uac0 uad0) (sv_range uba0 ubb0 ubc0 ubd0) (sv_range uaa1 uab1 uac1 uad1) (sv_range uba1 ubb1 ubc1 ubd1) (sv_range uaa2 uab2 uac2 uad2) (sv_range uba2 ubb2 ubc2 ubd2)
set_option maxRecDepth 100000 in
theorem closed : joinedFacts Try.pinned.checked.prog 29 Try.f29 Rows.ratioOrdersSpec Rows.ratioOrdersRow = true := by
  have key : ∀ P : Program, P = Try.pinned.checked.prog → joinedFacts P 29 Try.f29 Rows.ratioOrdersSpec Rows.ratioOrdersRow = true := by
    intro P hP
    unfold joinedFacts
    simp only [Bool.and_eq_true]
    repeat' apply And.intro
    all_goals first
      | (guard_target =~ Program.mayEnter _ = true; rw [hP]; exact may_enter)
      | (guard_target =~ (_ == Program.liftsFinal _) = true; rw [hP, lifts_final]; rfl)
      | (guard_target =~ (Program.make _ == _) = true; rw [hP, make_cut]; rfl)
      | (rw [hP]; as_aux_lemma => kernel_rfl)
      | (as_aux_lemma => kernel_rfl)
  exact key _ rfl
theorem over : Rows.ratioOrdersRow.holds Try.pinned (OpenSpec.ofChange Rows.ratioOrdersSpec) :=
  OpenClaim.holds_of_wide 29 Try.f29 rfl rfl rfl rfl rfl rfl rfl ⟨rfl, rfl, rfl, rfl, rfl⟩ rfl rfl rfl rfl rfl (by kernel_rfl) Try.func29 closed
    (of_decide_eq_true (by kernel_rfl)) (by unfold Func.isWrapper; first | (rw [if_pos (by decide +kernel)]; kernel_rfl) | (rw [if_neg (by decide +kernel)]; exact ⟨rfl, rfl⟩))
    (fun os started H enc _ => lifted os started H enc)
theorem proved : Rows.RatioOrdersSaid :=
  over
end ratioOrders
end Go.Proofs.Ytdgpdafkngoegaa
