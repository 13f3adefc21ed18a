/-
  The walks of layer 3 (wide): twice.
-/
import Derived.Test.YtmmieilogpmocaaWideM
import Derived.StillTailTactics
namespace Go.Proofs.Ytmmieilogpmocaa
set_option linter.unusedVariables false
set_option linter.unusedSimpArgs false
open Go.RowKit

/-- A region that draws its order, whose last operations store; what stands ahead of them reads. -/
theorem region_tail {P : Program} {id : Nat} {Q : Exit → Act → World → Prop} {a : Act} {w : World} {l : List Oper} (n : Nat) (hm : P.follows .mixedOrders = true) (hB : Region.lexTailB .any l.toArray n = true)
    (h : wpStill P l.toArray w.drew (fun a' => wpList P l.toArray Q (l.drop n) a' w.drew) (l.take n) a) : (Code.region id l.toArray true).wp P Q a w := wp_region_still_tail n hm hB h
theorem shl_or (a c : Int) (ha : Wd a) (h0 : 0 ≤ c) (h1 : c ≤ 1) : bits .or .u64 (a * 2 % 18446744073709551616) c = a * 2 % 18446744073709551616 + c := by
  unfold Wd at ha
  obtain ⟨n, rfl⟩ := Int.eq_ofNat_of_zero_le ha.1
  obtain ⟨k, rfl⟩ := Int.eq_ofNat_of_zero_le h0
  have e : ((n : Int) * 2 % 18446744073709551616) = ((n % 9223372036854775808 * 2 : Nat) : Int) := by omega
  rw [e, u64_or_nat _ _ (by omega) (by omega)]
  have hj : (n % 9223372036854775808 * 2) ||| k = n % 9223372036854775808 * 2 + k := by
    exact nat_join1 _ k (by omega) (by omega)
  rw [hj]; omega
theorem twice_step (a c : Int) (ha : Wd a) (h0 : 0 ≤ c ∧ c ≤ 1) : ∃ r q, bits .or .u64 (IntKind.u64.wrap (a * 2)) c = r ∧ a / 9223372036854775808 = q ∧ Wd r ∧ (0 ≤ q ∧ q ≤ 1) ∧ Hid (r + 18446744073709551616 * q = 2 * a + c) := by
  refine ⟨_, _, rfl, rfl, ?_, ?_, ?_⟩
  · rw [IntKind.wrap_u64, shl_or a c ha h0.1 h0.2]; unfold Wd at *; omega
  · unfold Wd at *; omega
  · exact Lib.hid (by rw [IntKind.wrap_u64, shl_or a c ha h0.1 h0.2]; unfold Wd at *; omega)
set_option maxRecDepth 100000 in
set_option maxHeartbeats 4000000 in
theorem twice_any (m c : Int) (hm : M512 m) (h0 : 0 ≤ c) (h1 : c ≤ 1) (w : World) :
    Calls Try.prog 102 #[mV m, .int .u64 c] w fun e w' => e = .returned (mV ((2 * m + c) % 13407807929942597099574024998205846127479365820592393377723561443721764030073546976801874298166903427690031858186486050853753882811946569946433649006084096)) ∧ Below w.heap.size w w' := by
  obtain ⟨a0, a1, a2, a3, a4, a5, a6, a7, ha0, ha1, ha2, ha3, ha4, ha5, ha6, ha7, hmm, eX⟩ := mV_words m hm
  obtain ⟨r0, q0, A0, B0, hr0, hq0, E0⟩ := twice_step a0 c ha0 ⟨h0, h1⟩
  obtain ⟨r1, q1, A1, B1, hr1, hq1, E1⟩ := twice_step a1 q0 ha1 hq0
  obtain ⟨r2, q2, A2, B2, hr2, hq2, E2⟩ := twice_step a2 q1 ha2 hq1
  obtain ⟨r3, q3, A3, B3, hr3, hq3, E3⟩ := twice_step a3 q2 ha3 hq2
  obtain ⟨r4, q4, A4, B4, hr4, hq4, E4⟩ := twice_step a4 q3 ha4 hq3
  obtain ⟨r5, q5, A5, B5, hr5, hq5, E5⟩ := twice_step a5 q4 ha5 hq4
  obtain ⟨r6, q6, A6, B6, hr6, hq6, E6⟩ := twice_step a6 q5 ha6 hq5
  obtain ⟨r7, q7, A7, B7, hr7, hq7, E7⟩ := twice_step a7 q6 ha7 hq6
  have hres : (2 * m + c) % 13407807929942597099574024998205846127479365820592393377723561443721764030073546976801874298166903427690031858186486050853753882811946569946433649006084096 = mv r0 r1 r2 r3 r4 r5 r6 r7 := by
    have hbd := mv_bounds hr0 hr1 hr2 hr3 hr4 hr5 hr6 hr7
    rw [← hmm]
    have g0 := E0.out; have g1 := E1.out; have g2 := E2.out; have g3 := E3.out; have g4 := E4.out; have g5 := E5.out; have g6 := E6.out; have g7 := E7.out
    clear E0 E1 E2 E3 E4 E5 E6 E7 A0 A1 A2 A3 A4 A5 A6 A7 B0 B1 B2 B3 B4 B5 B6 B7
    generalize hM : mv r0 r1 r2 r3 r4 r5 r6 r7 = M at hbd ⊢
    have key : 2 * mv a0 a1 a2 a3 a4 a5 a6 a7 + c = M + 13407807929942597099574024998205846127479365820592393377723561443721764030073546976801874298166903427690031858186486050853753882811946569946433649006084096 * q7 := by
      rw [← hM]; unfold mv; omega
    rw [key]; omega
  rw [hres, eX, mV_mv hr0 hr1 hr2 hr3 hr4 hr5 hr6 hr7]
  clear hres eX hmm hm E0 hr0 hq0 E1 hr1 hq1 E2 hr2 hq2 E3 hr3 hq3 E4 hr4 hq4 E5 hr5 hq5 E6 hr6 hq6 E7 hr7 hq7
  have i0 : ∀ w, (Instr.index 95 (.agg #[.int .u64 a0, .int .u64 a1, .int .u64 a2, .int .u64 a3, .int .u64 a4, .int .u64 a5, .int .u64 a6, .int .u64 a7]) (.int .i64 0)).run Try.prog w = .ok (.int .u64 a0) w := fun _ => by kernel_rfl
  have i1 : ∀ w, (Instr.index 95 (.agg #[.int .u64 a0, .int .u64 a1, .int .u64 a2, .int .u64 a3, .int .u64 a4, .int .u64 a5, .int .u64 a6, .int .u64 a7]) (.int .i64 1)).run Try.prog w = .ok (.int .u64 a1) w := fun _ => by kernel_rfl
  have i2 : ∀ w, (Instr.index 95 (.agg #[.int .u64 a0, .int .u64 a1, .int .u64 a2, .int .u64 a3, .int .u64 a4, .int .u64 a5, .int .u64 a6, .int .u64 a7]) (.int .i64 2)).run Try.prog w = .ok (.int .u64 a2) w := fun _ => by kernel_rfl
  have i3 : ∀ w, (Instr.index 95 (.agg #[.int .u64 a0, .int .u64 a1, .int .u64 a2, .int .u64 a3, .int .u64 a4, .int .u64 a5, .int .u64 a6, .int .u64 a7]) (.int .i64 3)).run Try.prog w = .ok (.int .u64 a3) w := fun _ => by kernel_rfl
  have i4 : ∀ w, (Instr.index 95 (.agg #[.int .u64 a0, .int .u64 a1, .int .u64 a2, .int .u64 a3, .int .u64 a4, .int .u64 a5, .int .u64 a6, .int .u64 a7]) (.int .i64 4)).run Try.prog w = .ok (.int .u64 a4) w := fun _ => by kernel_rfl
  have i5 : ∀ w, (Instr.index 95 (.agg #[.int .u64 a0, .int .u64 a1, .int .u64 a2, .int .u64 a3, .int .u64 a4, .int .u64 a5, .int .u64 a6, .int .u64 a7]) (.int .i64 5)).run Try.prog w = .ok (.int .u64 a5) w := fun _ => by kernel_rfl
  have i6 : ∀ w, (Instr.index 95 (.agg #[.int .u64 a0, .int .u64 a1, .int .u64 a2, .int .u64 a3, .int .u64 a4, .int .u64 a5, .int .u64 a6, .int .u64 a7]) (.int .i64 6)).run Try.prog w = .ok (.int .u64 a6) w := fun _ => by kernel_rfl
  have i7 : ∀ w, (Instr.index 95 (.agg #[.int .u64 a0, .int .u64 a1, .int .u64 a2, .int .u64 a3, .int .u64 a4, .int .u64 a5, .int .u64 a6, .int .u64 a7]) (.int .i64 7)).run Try.prog w = .ok (.int .u64 a7) w := fun _ => by kernel_rfl
  go_enter Try.func102, Try.ntmps102
  go_wp2
  go_rounds 9
  go_returns
  exact ⟨rfl, by go_grown⟩
/-- What less leaves. -/
theorem less_plain {a0 a1 a2 a3 a4 a5 a6 a7 b0 b1 b2 b3 b4 b5 b6 b7 r0 r1 r2 r3 r4 r5 r6 r7 q0 q1 q2 q3 q4 q5 q6 q7 : Int} (ha0 : Wd a0) (hb0 : Wd b0) (hr0 : Wd r0) (hq0 : 0 ≤ q0 ∧ q0 ≤ 1) (ha1 : Wd a1) (hb1 : Wd b1) (hr1 : Wd r1) (hq1 : 0 ≤ q1 ∧ q1 ≤ 1) (ha2 : Wd a2) (hb2 : Wd b2) (hr2 : Wd r2) (hq2 : 0 ≤ q2 ∧ q2 ≤ 1) (ha3 : Wd a3) (hb3 : Wd b3) (hr3 : Wd r3) (hq3 : 0 ≤ q3 ∧ q3 ≤ 1) (ha4 : Wd a4) (hb4 : Wd b4) (hr4 : Wd r4) (hq4 : 0 ≤ q4 ∧ q4 ≤ 1) (ha5 : Wd a5) (hb5 : Wd b5) (hr5 : Wd r5) (hq5 : 0 ≤ q5 ∧ q5 ≤ 1) (ha6 : Wd a6) (hb6 : Wd b6) (hr6 : Wd r6) (hq6 : 0 ≤ q6 ∧ q6 ≤ 1) (ha7 : Wd a7) (hb7 : Wd b7) (hr7 : Wd r7) (hq7 : 0 ≤ q7 ∧ q7 ≤ 1) (E0 : r0 - 18446744073709551616 * q0 = a0 - b0 - 0) (E1 : r1 - 18446744073709551616 * q1 = a1 - b1 - q0) (E2 : r2 - 18446744073709551616 * q2 = a2 - b2 - q1) (E3 : r3 - 18446744073709551616 * q3 = a3 - b3 - q2) (E4 : r4 - 18446744073709551616 * q4 = a4 - b4 - q3) (E5 : r5 - 18446744073709551616 * q5 = a5 - b5 - q4) (E6 : r6 - 18446744073709551616 * q6 = a6 - b6 - q5) (E7 : r7 - 18446744073709551616 * q7 = a7 - b7 - q6) (hba :  mv b0 b1 b2 b3 b4 b5 b6 b7 ≤  mv a0 a1 a2 a3 a4 a5 a6 a7) :  mv r0 r1 r2 r3 r4 r5 r6 r7 =  mv a0 a1 a2 a3 a4 a5 a6 a7 -  mv b0 b1 b2 b3 b4 b5 b6 b7 := by
  have g := mv_bounds hr0 hr1 hr2 hr3 hr4 hr5 hr6 hr7
  have key :  mv a0 a1 a2 a3 a4 a5 a6 a7 -  mv b0 b1 b2 b3 b4 b5 b6 b7 =  mv r0 r1 r2 r3 r4 r5 r6 r7 - 13407807929942597099574024998205846127479365820592393377723561443721764030073546976801874298166903427690031858186486050853753882811946569946433649006084096 * q7 := by
    clear g hba hr0 hr1 hr2 hr3 hr4 hr5 hr6 hr7
    unfold mv; omega
  have g2 : 0 ≤ q7 ∧ q7 ≤ 1 := hq7
  generalize  mv r0 r1 r2 r3 r4 r5 r6 r7 = M at *
  generalize  mv a0 a1 a2 a3 a4 a5 a6 a7 = X at *
  generalize  mv b0 b1 b2 b3 b4 b5 b6 b7 = Y at *
  omega
set_option maxRecDepth 100000 in
set_option maxHeartbeats 4000000 in
theorem less_any (x y : Int) (hx : M512 x) (hy : M512 y) (hyx : y ≤ x) (w : World) :
    Calls Try.prog 103 #[mV x, mV y] w fun e w' => e = .returned (mV (x - y)) ∧ Below w.heap.size w w' := by
  obtain ⟨a0, a1, a2, a3, a4, a5, a6, a7, ha0, ha1, ha2, ha3, ha4, ha5, ha6, ha7, rfl, eX⟩ := mV_words x hx
  obtain ⟨b0, b1, b2, b3, b4, b5, b6, b7, hb0, hb1, hb2, hb3, hb4, hb5, hb6, hb7, rfl, eY⟩ := mV_words y hy
  obtain ⟨r0, q0, A0, hr0, hq0, E0⟩ := sub64_ex a0 b0 0 ha0 hb0 (by omega) (by omega)
  obtain ⟨r1, q1, A1, hr1, hq1, E1⟩ := sub64_ex a1 b1 q0 ha1 hb1 hq0.1 hq0.2
  obtain ⟨r2, q2, A2, hr2, hq2, E2⟩ := sub64_ex a2 b2 q1 ha2 hb2 hq1.1 hq1.2
  obtain ⟨r3, q3, A3, hr3, hq3, E3⟩ := sub64_ex a3 b3 q2 ha3 hb3 hq2.1 hq2.2
  obtain ⟨r4, q4, A4, hr4, hq4, E4⟩ := sub64_ex a4 b4 q3 ha4 hb4 hq3.1 hq3.2
  obtain ⟨r5, q5, A5, hr5, hq5, E5⟩ := sub64_ex a5 b5 q4 ha5 hb5 hq4.1 hq4.2
  obtain ⟨r6, q6, A6, hr6, hq6, E6⟩ := sub64_ex a6 b6 q5 ha6 hb6 hq5.1 hq5.2
  obtain ⟨r7, q7, A7, hr7, hq7, E7⟩ := sub64_ex a7 b7 q6 ha7 hb7 hq6.1 hq6.2
  have hp := less_plain ha0 hb0 hr0 hq0 ha1 hb1 hr1 hq1 ha2 hb2 hr2 hq2 ha3 hb3 hr3 hq3 ha4 hb4 hr4 hq4 ha5 hb5 hr5 hq5 ha6 hb6 hr6 hq6 ha7 hb7 hr7 hq7 E0.out E1.out E2.out E3.out E4.out E5.out E6.out E7.out hyx
  rw [← hp, eX, eY, mV_mv hr0 hr1 hr2 hr3 hr4 hr5 hr6 hr7]
  clear hp hyx eX eY hx hy E0 hr0 hq0 E1 hr1 hq1 E2 hr2 hq2 E3 hr3 hq3 E4 hr4 hq4 E5 hr5 hq5 E6 hr6 hq6 E7 hr7 hq7
  have i0 : ∀ w, (Instr.index 95 (.agg #[.int .u64 a0, .int .u64 a1, .int .u64 a2, .int .u64 a3, .int .u64 a4, .int .u64 a5, .int .u64 a6, .int .u64 a7]) (.int .i64 0)).run Try.prog w = .ok (.int .u64 a0) w := fun _ => by kernel_rfl
  have i1 : ∀ w, (Instr.index 95 (.agg #[.int .u64 a0, .int .u64 a1, .int .u64 a2, .int .u64 a3, .int .u64 a4, .int .u64 a5, .int .u64 a6, .int .u64 a7]) (.int .i64 1)).run Try.prog w = .ok (.int .u64 a1) w := fun _ => by kernel_rfl
  have i2 : ∀ w, (Instr.index 95 (.agg #[.int .u64 a0, .int .u64 a1, .int .u64 a2, .int .u64 a3, .int .u64 a4, .int .u64 a5, .int .u64 a6, .int .u64 a7]) (.int .i64 2)).run Try.prog w = .ok (.int .u64 a2) w := fun _ => by kernel_rfl
  have i3 : ∀ w, (Instr.index 95 (.agg #[.int .u64 a0, .int .u64 a1, .int .u64 a2, .int .u64 a3, .int .u64 a4, .int .u64 a5, .int .u64 a6, .int .u64 a7]) (.int .i64 3)).run Try.prog w = .ok (.int .u64 a3) w := fun _ => by kernel_rfl
  have i4 : ∀ w, (Instr.index 95 (.agg #[.int .u64 a0, .int .u64 a1, .int .u64 a2, .int .u64 a3, .int .u64 a4, .int .u64 a5, .int .u64 a6, .int .u64 a7]) (.int .i64 4)).run Try.prog w = .ok (.int .u64 a4) w := fun _ => by kernel_rfl
  have i5 : ∀ w, (Instr.index 95 (.agg #[.int .u64 a0, .int .u64 a1, .int .u64 a2, .int .u64 a3, .int .u64 a4, .int .u64 a5, .int .u64 a6, .int .u64 a7]) (.int .i64 5)).run Try.prog w = .ok (.int .u64 a5) w := fun _ => by kernel_rfl
  have i6 : ∀ w, (Instr.index 95 (.agg #[.int .u64 a0, .int .u64 a1, .int .u64 a2, .int .u64 a3, .int .u64 a4, .int .u64 a5, .int .u64 a6, .int .u64 a7]) (.int .i64 6)).run Try.prog w = .ok (.int .u64 a6) w := fun _ => by kernel_rfl
  have i7 : ∀ w, (Instr.index 95 (.agg #[.int .u64 a0, .int .u64 a1, .int .u64 a2, .int .u64 a3, .int .u64 a4, .int .u64 a5, .int .u64 a6, .int .u64 a7]) (.int .i64 7)).run Try.prog w = .ok (.int .u64 a7) w := fun _ => by kernel_rfl
  go_enter Try.func103, Try.ntmps103
  go_wp2
  refine wp_loop_rounds 9 ?_
  rw [rounds_succ]
  go_wp2_with fail
  go_region_both
  go_wp2_with fail
  rw [rounds_succ]
  go_wp2_with fail
  go_region_both
  go_wp2_with fail
  rw [rounds_succ]
  go_wp2_with fail
  go_region_both
  go_wp2_with fail
  rw [rounds_succ]
  go_wp2_with fail
  go_region_both
  go_wp2_with fail
  rw [rounds_succ]
  go_wp2_with fail
  go_region_both
  go_wp2_with fail
  rw [rounds_succ]
  go_wp2_with fail
  go_region_both
  go_wp2_with fail
  rw [rounds_succ]
  go_wp2_with fail
  go_region_both
  go_wp2_with fail
  rw [rounds_succ]
  go_wp2_with fail
  go_region_both
  go_wp2_with fail
  rw [rounds_succ]
  go_wp2_with fail
  go_returns
  exact ⟨rfl, by go_grown⟩
end Go.Proofs.Ytmmieilogpmocaa
