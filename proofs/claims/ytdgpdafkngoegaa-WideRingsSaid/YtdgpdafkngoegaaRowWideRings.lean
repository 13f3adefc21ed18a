/-
  The statement WideRings, proved: for every input the law answers true, and each argument reads behind the call as it did. No condition.
-/
import Derived.Test.YtdgpdafkngoegaaLaw03r
import Derived.Test.YtdgpdafkngoegaaOpenArr
import Derived.Test.YtdgpdafkngoegaaSigns
namespace Go.Proofs.Ytdgpdafkngoegaa
namespace wideRings
open Go.ChangeShapes Go.WideShapes Go.ChangeAt Go.RowKit
open Go.ChangeMaps (open_string)
set_option maxRecDepth 100000 in
theorem lifted (os : Os) (started : os.Started) (H : Type) (enc : TypeId × Value → H) :
    ReturnsInHanded {} Try.checked os 15 .any (Rows.wideRingsSpec.pre6 enc Try.prog Try.f15 Rows.wideRingsRow.domain false) (Rows.wideRingsSpec.post enc Try.prog Try.f15 false true false false) := by
  refine returnsInHanded_of_change (C := Try.checked) Try.own0 started (by kernel_rfl) Try.func15
    (ChangeSpec.witness6 (enc := enc) (C := Try.checked) false ⟨#[], #[.agg #[.int .u64 0, .int .u64 0, .int .u64 0, .int .u64 0], .agg #[.int .u64 0, .int .u64 0, .int .u64 0, .int .u64 0], .agg #[.int .u64 0, .int .u64 0, .int .u64 0, .int .u64 0]], []⟩ 8 (by kernel_rfl) (by kernel_rfl) (by kernel_rfl) (by kernel_rfl)) ?_
  intro W base args ds gs before hval0 hW _ _
  have hval : ∀ (j : Nat) t v, Try.f15.params[j]? = some t → args[j]? = some v → Value.okWide Try.prog W .any base t v := hval0
  refine law_calls Try.laidOut (by kernel_rfl) rfl rfl Try.underlying4 (fun ds h => by match ds, h with | [_, _, _], _ => rfl) hW ?_
  obtain ⟨p, q, hA0, _, _, _, _⟩ := hW
  have hA : DataW.TrodAll enc Try.prog W 0 (fun _ => true) true Try.f15.params.toList args.toList ds p := hA0
  rw [Try.params15] at hA hval
  obtain ⟨v0, vs0, d0, ds0, p0, q0, hargs, rfl, rfl, h0, r0⟩ := trodAll_cons hA
  obtain ⟨v1, vs1, d1, ds1, p1, q1, rfl, rfl, rfl, h1, r1⟩ := trodAll_cons r0
  obtain ⟨v2, vs2, d2, ds2, p2, q2, rfl, rfl, rfl, h2, r2⟩ := trodAll_cons r1
  obtain ⟨rfl, rfl, rfl⟩ := trodAll_nil r2
  obtain rfl : args = #[v0, v1, v2] := by cases args; simp_all
  obtain ⟨a0, b0, c0, x0, rfl, wa0, wb0, wc0, wx0⟩ := open_arr4 Try.underlying24 Try.underlying22 (by kernel_rfl) (by kernel_rfl) (hval 0 24 v0 rfl rfl) h0
  have ha0 := bounds_u64 wa0; have hb0 := bounds_u64 wb0; have hc0 := bounds_u64 wc0; have hx0 := bounds_u64 wx0
  have W0 : Wd a0 ∧ Wd b0 ∧ Wd c0 ∧ Wd x0 := ⟨⟨ha0.1, ha0.2⟩, ⟨hb0.1, hb0.2⟩, ⟨hc0.1, hc0.2⟩, ⟨hx0.1, hx0.2⟩⟩
  rw [← iV_sv W0.1 W0.2.1 W0.2.2.1 W0.2.2.2]
  obtain ⟨a1, b1, c1, x1, rfl, wa1, wb1, wc1, wx1⟩ := open_arr4 Try.underlying24 Try.underlying22 (by kernel_rfl) (by kernel_rfl) (hval 1 24 v1 rfl rfl) h1
  have ha1 := bounds_u64 wa1; have hb1 := bounds_u64 wb1; have hc1 := bounds_u64 wc1; have hx1 := bounds_u64 wx1
  have W1 : Wd a1 ∧ Wd b1 ∧ Wd c1 ∧ Wd x1 := ⟨⟨ha1.1, ha1.2⟩, ⟨hb1.1, hb1.2⟩, ⟨hc1.1, hc1.2⟩, ⟨hx1.1, hx1.2⟩⟩
  rw [← iV_sv W1.1 W1.2.1 W1.2.2.1 W1.2.2.2]
  obtain ⟨a2, b2, c2, x2, rfl, wa2, wb2, wc2, wx2⟩ := open_arr4 Try.underlying24 Try.underlying22 (by kernel_rfl) (by kernel_rfl) (hval 2 24 v2 rfl rfl) h2
  have ha2 := bounds_u64 wa2; have hb2 := bounds_u64 wb2; have hc2 := bounds_u64 wc2; have hx2 := bounds_u64 wx2
  have W2 : Wd a2 ∧ Wd b2 ∧ Wd c2 ∧ Wd x2 := ⟨⟨ha2.1, ha2.2⟩, ⟨hb2.1, hb2.2⟩, ⟨hc2.1, hc2.2⟩, ⟨hx2.1, hx2.2⟩⟩
  rw [← iV_sv W2.1 W2.2.1 W2.2.2.1 W2.2.2.2]
  exact law_WideRings (sv a0 b0 c0 x0) (sv a1 b1 c1 x1) (sv a2 b2 c2 x2) W (sv_range W0.1 W0.2.1 W0.2.2.1 W0.2.2.2) (sv_range W1.1 W1.2.1 W1.2.2.1 W1.2.2.2) (sv_range W2.1 W2.2.1 W2.2.2.1 W2.2.2.2)
set_option maxRecDepth 100000 in
theorem closed : joinedFacts Try.pinned.checked.prog 15 Try.f15 Rows.wideRingsSpec Rows.wideRingsRow = true := by
  have key : ∀ P : Program, P = Try.pinned.checked.prog → joinedFacts P 15 Try.f15 Rows.wideRingsSpec Rows.wideRingsRow = true := by
    intro P hP
    unfold joinedFacts
    simp only [Bool.and_eq_true]
    repeat' apply And.intro
    all_goals first
      | (guard_target =~ Program.mayEnter _ = true; rw [hP]; exact may_enter)
      | (guard_target =~ (_ == Program.liftsFinal _) = true; rw [hP, lifts_final]; rfl)
      | (guard_target =~ (Program.make _ == _) = true; rw [hP, make_cut]; rfl)
      | (rw [hP]; as_aux_lemma => kernel_rfl)
      | (as_aux_lemma => kernel_rfl)
  exact key _ rfl
theorem over : Rows.wideRingsRow.holds Try.pinned (OpenSpec.ofChange Rows.wideRingsSpec) :=
  OpenClaim.holds_of_wide 15 Try.f15 rfl rfl rfl rfl rfl rfl rfl ⟨rfl, rfl, rfl, rfl, rfl⟩ rfl rfl rfl rfl rfl (by kernel_rfl) Try.func15 closed
    (of_decide_eq_true (by kernel_rfl)) (by unfold Func.isWrapper; first | (rw [if_pos (by decide +kernel)]; kernel_rfl) | (rw [if_neg (by decide +kernel)]; exact ⟨rfl, rfl⟩))
    (fun os started H enc _ => lifted os started H enc)
theorem proved : Rows.WideRingsSaid :=
  over
end wideRings
end Go.Proofs.Ytdgpdafkngoegaa
