/-
  The statement WideMoves, proved: for every input the law answers true, and each argument reads behind the call as it did. No condition.
-/
import Derived.Test.YtdgpdafkngoegaaLaw03m
import Derived.Test.YtdgpdafkngoegaaOpenArr
import Derived.Test.YtdgpdafkngoegaaSigns
namespace Go.Proofs.Ytdgpdafkngoegaa
namespace wideMoves
open Go.ChangeShapes Go.WideShapes Go.ChangeAt Go.RowKit
open Go.ChangeMaps (open_string)
set_option maxRecDepth 100000 in
theorem lifted (os : Os) (started : os.Started) (H : Type) (enc : TypeId × Value → H) :
    ReturnsInHanded {} Try.checked os 9 .any (Rows.wideMovesSpec.pre6 enc Try.prog Try.f9 Rows.wideMovesRow.domain false) (Rows.wideMovesSpec.post enc Try.prog Try.f9 false true false false) := by
  refine returnsInHanded_of_change (C := Try.checked) Try.own0 started (by kernel_rfl) Try.func9
    (ChangeSpec.witness6 (enc := enc) (C := Try.checked) false ⟨#[], #[.agg #[.int .u64 0, .int .u64 0, .int .u64 0, .int .u64 0], .int .i64 0], []⟩ 8 (by kernel_rfl) (by kernel_rfl) (by kernel_rfl) (by kernel_rfl)) ?_
  intro W base args ds gs before hval0 hW _ _
  have hval : ∀ (j : Nat) t v, Try.f9.params[j]? = some t → args[j]? = some v → Value.okWide Try.prog W .any base t v := hval0
  refine law_calls Try.laidOut (by kernel_rfl) rfl rfl Try.underlying4 (fun ds h => by match ds, h with | [_, _], _ => rfl) hW ?_
  obtain ⟨p, q, hA0, _, _, _, _⟩ := hW
  have hA : DataW.TrodAll enc Try.prog W 0 (fun _ => true) true Try.f9.params.toList args.toList ds p := hA0
  rw [Try.params9] at hA hval
  obtain ⟨v0, vs0, d0, ds0, p0, q0, hargs, rfl, rfl, h0, r0⟩ := trodAll_cons hA
  obtain ⟨v1, vs1, d1, ds1, p1, q1, rfl, rfl, rfl, h1, r1⟩ := trodAll_cons r0
  obtain ⟨rfl, rfl, rfl⟩ := trodAll_nil r1
  obtain rfl : args = #[v0, v1] := by cases args; simp_all
  obtain ⟨a0, b0, c0, x0, rfl, wa0, wb0, wc0, wx0⟩ := open_arr4 Try.underlying24 Try.underlying22 (by kernel_rfl) (by kernel_rfl) (hval 0 24 v0 rfl rfl) h0
  have ha0 := bounds_u64 wa0; have hb0 := bounds_u64 wb0; have hc0 := bounds_u64 wc0; have hx0 := bounds_u64 wx0
  have W0 : Wd a0 ∧ Wd b0 ∧ Wd c0 ∧ Wd x0 := ⟨⟨ha0.1, ha0.2⟩, ⟨hb0.1, hb0.2⟩, ⟨hc0.1, hc0.2⟩, ⟨hx0.1, hx0.2⟩⟩
  rw [← iV_sv W0.1 W0.2.1 W0.2.2.1 W0.2.2.2]
  obtain ⟨n, rfl, rfl, rfl, w1⟩ := open_int Try.underlying3 (hval 1 3 v1 rfl rfl) h1
  have b1 := bounds_i64 w1
  exact law_WideMoves (sv a0 b0 c0 x0) n W (sv_range W0.1 W0.2.1 W0.2.2.1 W0.2.2.2) b1.1 b1.2
set_option maxRecDepth 100000 in
theorem closed : joinedFacts Try.pinned.checked.prog 9 Try.f9 Rows.wideMovesSpec Rows.wideMovesRow = true := by
  have key : ∀ P : Program, P = Try.pinned.checked.prog → joinedFacts P 9 Try.f9 Rows.wideMovesSpec Rows.wideMovesRow = true := by
    intro P hP
    unfold joinedFacts
    simp only [Bool.and_eq_true]
    repeat' apply And.intro
    all_goals first
      | (guard_target =~ Program.mayEnter _ = true; rw [hP]; exact may_enter)
      | (guard_target =~ (_ == Program.liftsFinal _) = true; rw [hP, lifts_final]; rfl)
      | (guard_target =~ (Program.make _ == _) = true; rw [hP, make_cut]; rfl)
      | (rw [hP]; as_aux_lemma => kernel_rfl)
      | (as_aux_lemma => kernel_rfl)
  exact key _ rfl
theorem over : Rows.wideMovesRow.holds Try.pinned (OpenSpec.ofChange Rows.wideMovesSpec) :=
  OpenClaim.holds_of_wide 9 Try.f9 rfl rfl rfl rfl rfl rfl rfl ⟨rfl, rfl, rfl, rfl, rfl⟩ rfl rfl rfl rfl rfl (by kernel_rfl) Try.func9 closed
    (of_decide_eq_true (by kernel_rfl)) (by unfold Func.isWrapper; first | (rw [if_pos (by decide +kernel)]; kernel_rfl) | (rw [if_neg (by decide +kernel)]; exact ⟨rfl, rfl⟩))
    (fun os started H enc _ => lifted os started H enc)
theorem proved : Rows.WideMovesSaid :=
  over
end wideMoves
end Go.Proofs.Ytdgpdafkngoegaa
