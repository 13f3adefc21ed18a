/-
  The statement TrapFinds, proved: for every input the law answers true, and each argument reads behind the call as it did. No condition.
-/
import Derived.Test.YtlhmjhildlnokaaGreatM996e9167
import Derived.Test.YtlhmjhildlnokaaGreatSigns
namespace Go.Proofs.YtlhmjhildlnokaaGreat
namespace trapFinds
open Go.ChangeShapes Go.WideShapes Go.ChangeAt Go.RowKit
open Go.ChangeMaps (open_string)
set_option maxRecDepth 100000 in
theorem lifted (os : Os) (started : os.Started) (H : Type) (enc : TypeId × Value → H) :
  ReturnsInHanded {} Tryz.checked os 3 .any (Rows.trapFindsSpec.pre6 enc Tryz.prog Tryz.f3 Rows.trapFindsRow.domain false) (Rows.trapFindsSpec.post enc Tryz.prog Tryz.f3 false true false false) := by
 refine returnsInHanded_of_change (C := Tryz.checked) Tryz.own0 started (by kernel_rfl) Tryz.func3
  (ChangeSpec.witness6 (enc := enc) (C := Tryz.checked) false ⟨#[], #[.agg #[.slice none 0 0, .slice none 0 0], .slice none 0 0, .agg #[.int .i64 0, .int .i64 0]], []⟩ 8 (by kernel_rfl) (by kernel_rfl) (by kernel_rfl) (by kernel_rfl)) ?_
 intro W base args ds gs before hval0 hW _ _
 have hval : ∀ (j : Nat) t v, Tryz.f3.params[j]? = some t → args[j]? = some v → Value.okWide Tryz.prog W .any base t v := hval0
 refine law_calls Tryz.laidOut (by kernel_rfl) rfl rfl Tryz.underlying4 (fun ds h => by match ds, h with | [_, _, _], _ => rfl) hW ?_
 obtain ⟨p, q, hA0, _, _, _, _⟩ := hW
 have hA : DataW.TrodAll enc Tryz.prog W 0 (fun _ => true) true Tryz.f3.params.toList args.toList ds p := hA0
 rw [Tryz.params3] at hA hval
 obtain ⟨v0, vs0, d0, ds0, p0, q0, hargs, rfl, rfl, h0, r0⟩ := trodAll_cons hA
 obtain ⟨v1, vs1, d1, ds1, p1, q1, rfl, rfl, rfl, h1, r1⟩ := trodAll_cons r0
 obtain ⟨v2, vs2, d2, ds2, p2, q2, rfl, rfl, rfl, h2, r2⟩ := trodAll_cons r1
 obtain ⟨rfl, rfl, rfl⟩ := trodAll_nil r2
 obtain rfl : args = #[v0, v1, v2] := by cases args; simp_all
 obtain ⟨A0, B0, c0, e0, vs0_, es0_, rfl, pl0⟩ := open_plan (hval 0 25 v0 rfl rfl) h0
 obtain ⟨A1, c1, L1, rfl, lb1, lc1, lw1, ls1⟩ := open_nums (e := 5) (by kernel_rfl) (by kernel_rfl) (by kernel_rfl) (hval 1 26 v1 rfl rfl) h1
 obtain ⟨px2, py2, rfl, _, _⟩ := open_pt (hval 2 28 v2 rfl rfl) h2
 exact law_TrapFinds A0 B0 c0 e0 vs0_ es0_ A1 c1 L1 px2 py2 W pl0 ls1 lw1
set_option maxRecDepth 100000 in
set_option maxHeartbeats 4000000 in
theorem closed : joinedFacts Tryz.pinned.checked.prog 3 Tryz.f3 Rows.trapFindsSpec Rows.trapFindsRow = true := by
 have key : ∀ P : Program, P = Tryz.pinned.checked.prog → joinedFacts P 3 Tryz.f3 Rows.trapFindsSpec Rows.trapFindsRow = true := by
  intro P hP
  unfold joinedFacts
  simp only [Bool.and_eq_true]
  repeat' apply And.intro
  all_goals first
   | (guard_target = Program.mayEnter _ = true; rw [hP]; exact may_enter)
   | (guard_target = (_ == Program.liftsFinal _) = true; rw [hP, lifts_final]; rfl)
   | (guard_target = (Program.make _ == _) = true; rw [hP, make_cut]; rfl)
   | (rw [hP]; as_aux_lemma => kernel_rfl)
   | (as_aux_lemma => kernel_rfl)
 exact key _ rfl
theorem over : Rows.trapFindsRow.holds Tryz.pinned (OpenSpec.ofChange Rows.trapFindsSpec) :=
 OpenClaim.holds_of_wide 3 Tryz.f3 rfl rfl rfl rfl rfl rfl rfl ⟨rfl, rfl, rfl, rfl, rfl⟩ rfl rfl rfl rfl rfl (by kernel_rfl) Tryz.func3 closed
  (of_decide_eq_true (by kernel_rfl)) (by unfold Func.isWrapper; first | (rw [if_pos (by decide +kernel)]; kernel_rfl) | (rw [if_neg (by decide +kernel)]; exact ⟨rfl, rfl⟩))
  (fun os started H enc _ => lifted os started H enc)
theorem proved : Rows.TrapFindsSaid :=
 over
end trapFinds
end Go.Proofs.YtlhmjhildlnokaaGreat
