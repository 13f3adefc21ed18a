/-
  The walks of layer 3 (wide): bits.Div64 by ten.
-/
import Derived.Test.YtmmieilogpmocaaWide10
import Derived.Test.YtmmieilogpmocaaOwn3
import Derived.Deep.Cut
namespace Go.Proofs.Ytmmieilogpmocaa
set_option linter.unusedVariables false
set_option linter.unusedSimpArgs false
open Go.RowKit

theorem d64_or (h l : Nat) (hh : h < 10) (hl : l < 18446744073709551616) : bits .or .u64 ((h : Int) * 1152921504606846976) ((l : Int) / 16) = ((h * 1152921504606846976 + l / 16 : Nat) : Int) := by
  have e1 : (h : Int) * 1152921504606846976 = ((h * 1152921504606846976 : Nat) : Int) := by omega
  have e2 : (l : Int) / 16 = ((l / 16 : Nat) : Int) := by omega
  rw [e1, e2, u64_or_nat _ _ (by omega) (by omega)]
  have := Nat.two_pow_add_eq_or_of_lt (i := 60) (b := l / 16) (by omega) h
  rw [Nat.mul_comm h, show (1152921504606846976 : Nat) = 2 ^ 60 by decide, this]
theorem d64_and0 : bits .and .u64 11529215046068469760 4294967295 = 0 := by kernel_rfl
theorem d64_lo (l : Nat) (hl : l < 18446744073709551616) : IntKind.u64.wrap ((l : Int) * 1152921504606846976) = ((l % 16 : Nat) : Int) * 1152921504606846976 := by rw [IntKind.wrap_u64]; omega
theorem d64_and (t : Nat) (ht : t < 16) : bits .and .u64 ((t : Int) * 1152921504606846976) 4294967295 = 0 := by
  rw [show (t : Int) * 1152921504606846976 = ((t * 1152921504606846976 : Nat) : Int) by omega, m64_and _ (by omega)]; omega
theorem d64_q (U : Nat) (h : U < 11529215046068469760) : IntKind.u64.wrap ((U : Int).tdiv 2684354560) = ((U / 2684354560 : Nat) : Int) := by
  rw [Int.tdiv_eq_ediv_of_nonneg (by omega), IntKind.wrap_u64]; omega
theorem d64_r (U : Nat) (h : U < 11529215046068469760) : IntKind.u64.wrap ((U : Int) - IntKind.u64.wrap (((U / 2684354560 : Nat) : Int) * 2684354560)) = ((U % 2684354560 : Nat) : Int) := by
  rw [IntKind.wrap_u64, IntKind.wrap_u64]; omega
theorem d64_x (U t : Nat) (hU : U < 11529215046068469760) (ht : t < 16) : IntKind.u64.wrap (IntKind.u64.wrap (IntKind.u64.wrap ((U : Int) * 4294967296) + (t : Int) * 1152921504606846976 / 4294967296) - IntKind.u64.wrap (((U / 2684354560 : Nat) : Int) * 11529215046068469760)) = ((U % 2684354560 * 4294967296 + t * 268435456 : Nat) : Int) := by
  simp only [IntKind.wrap_u64]; omega
theorem d64_y2 (X q0 r2 : Nat) (hX : X < 11529215046068469760) (hq : q0 * 2684354560 ≤ X) (hr : r2 = X - q0 * 2684354560) (hb : r2 < 2684354560) : IntKind.u64.wrap (IntKind.u64.wrap (IntKind.u64.wrap ((X : Int) * 4294967296)) - IntKind.u64.wrap ((q0 : Int) * 11529215046068469760)) / 1152921504606846976 = ((r2 / 268435456 : Nat) : Int) := by
  have e : (X : Int) = q0 * 2684354560 + r2 := by omega
  simp only [IntKind.wrap_u64]
  have e1 : ((X : Int) * 4294967296 % 18446744073709551616 % 18446744073709551616 - (q0 : Int) * 11529215046068469760 % 18446744073709551616) % 18446744073709551616 = (r2 : Int) * 4294967296 := by
    rw [Int.emod_emod_of_dvd _ (Int.dvd_refl _), ← Int.sub_emod]
    have : (X : Int) * 4294967296 - (q0 : Int) * 11529215046068469760 = (r2 : Int) * 4294967296 := by omega
    rw [this]
    exact Int.emod_eq_of_lt (by omega) (by omega)
  rw [e1]
  omega
theorem d64_fin (h l U t q1 r1 X q0 r2 : Nat) (hU : h * 1152921504606846976 + l / 16 = U) (hT : l % 16 = t) (hQ1 : U / 2684354560 = q1) (hR1 : U % 2684354560 = r1) (hX : r1 * 4294967296 + t * 268435456 = X) (hQ0 : X / 2684354560 = q0) (hR2 : r2 = X - q0 * 2684354560) :
    (h * 18446744073709551616 + l) / 10 = q1 * 4294967296 + q0 ∧ (h * 18446744073709551616 + l) % 10 = r2 / 268435456 := by
  have s0 : X = 268435456 * (16 * r1 + t) := by omega
  have s1 : X = 2684354560 * q0 + r2 ∧ r2 < 2684354560 := by omega
  have s2 : 16 * r1 + t = 10 * q0 + r2 / 268435456 := by omega
  have s3 : 16 * U + t = h * 18446744073709551616 + l := by omega
  have s4 : U = 2684354560 * q1 + r1 := by omega
  have s5 : r2 / 268435456 < 10 := by omega
  generalize r2 / 268435456 = s at *
  clear hU hT hQ1 hR1 hX hQ0 hR2 s0 s1
  have s6 : h * 18446744073709551616 + l = s + 10 * (q1 * 4294967296 + q0) := by omega
  rw [s6, Nat.add_mul_div_left _ _ (by omega), Nat.add_mul_mod_self_left, Nat.div_eq_of_lt s5, Nat.mod_eq_of_lt s5]
  omega
set_option maxRecDepth 100000 in
set_option maxHeartbeats 4000000 in
theorem len64_ten (w : World) : Calls Try.prog 106 #[.int .u64 10] w fun e w' => e = .returned (.int .i64 4) ∧ w = w' := by
  go_enter Try.func106, Try.ntmps106
  go_wp2
  go_ret
  exact ⟨by kernel_rfl, rfl⟩
set_option maxRecDepth 100000 in
set_option maxHeartbeats 4000000 in
theorem lead64_ten (w : World) : Calls Try.prog 104 #[.int .u64 10] w fun e w' => e = .returned (.int .i64 60) ∧ w = w' := by
  go_enter Try.func104, Try.ntmps104
  go_wp2_with (go_at_call 106; refine (len64_ten _).mono ?_; rintro e w' ⟨rfl, rfl⟩)
  go_ret
  exact ⟨rfl, rfl⟩
set_option maxRecDepth 100000 in
set_option maxHeartbeats 4000000 in
theorem div64_ten (h l : Nat) (hh : h < 10) (hl : l < 18446744073709551616) (w : World) :
    Calls Try.prog 93 #[.int .u64 h, .int .u64 l, .int .u64 10] w fun e w' => e = .returned (.tuple #[.int .u64 (((h * 18446744073709551616 + l) / 10 : Nat) : Int), .int .u64 (((h * 18446744073709551616 + l) % 10 : Nat) : Int)]) ∧ Below w.heap.size w w' := by
  by_cases h0 : h = 0
  · subst h0
    go_enter Try.func93, Try.ntmps93
    have H := Own.start w
    go_wp2_with (first
      | (guard_target =~ Code.wp _ (Code.region 6 _ true) _ _ _; refine region_tree0 6 (G := True) (.q 0 (.q 1 (.q 2 (.q 3 (.q 4 (.q 5 (.q 6 (.q 7 .nil)))))))) (by kernel_rfl) (by intro c a d v w h; cases d <;> exact h) (by kernel_rfl) H ⟨trivial⟩ (fun _ w3 H2 => ?_); (clear H; (try clear w2); revert w3; intro w2 H))
      | (guard_target =~ wpTree _ _ _ _ _ _ _; first | (guard_target =~ wpTree _ _ _ (Tr.q _ _) _ _ _; first | (refine tree_quiet ⟨_, H, by repeat first | exact .here | apply Suf.there⟩ rfl rfl rfl (fun K hK => ?_); simp only [List.getElem_toArray, List.getElem_cons_succ, List.getElem_cons_zero]; first | (guard_target =~ Oper.quiet _ (Oper.mk _ (.load _ _) _ _ _ _) _ _ _; (first | fail); clear hK K; simp only [Act.put, List.setIfInBounds_toArray, List.set_cons_succ, List.set_cons_zero]) | (go_big_quiet_op; (try refine ⟨_, fun _ _ => rfl, ?_⟩); refine hK _ ?_; clear hK K)) | (refine tree_skip ⟨_, H, by repeat first | exact .here | apply Suf.there⟩ rfl rfl ?_; simp only [List.getElem_toArray, List.getElem_cons_succ, List.getElem_cons_zero, Act.put, List.setIfInBounds_toArray, List.set_cons_succ, List.set_cons_zero])) | (guard_target =~ wpTree _ _ _ (Tr.both _ _) _ _ _; refine tree_both ?_ ?_) | (guard_target =~ wpTree _ _ _ (Tr.e _ _) _ _ _; first | (refine tree_one rfl rfl (fun K hK => ?_); simp only [List.getElem_toArray, List.getElem_cons_succ, List.getElem_cons_zero]; first | ((first | fail); simp only [Act.put, List.setIfInBounds_toArray, List.set_cons_succ, List.set_cons_zero]) | go_big_op) | (refine tree_one_skip ⟨_, H, by repeat first | exact .here | apply Suf.there⟩ rfl rfl ?_; simp only [List.getElem_toArray, List.getElem_cons_succ, List.getElem_cons_zero, Act.put, List.setIfInBounds_toArray, List.set_cons_succ, List.set_cons_zero])) | (guard_target =~ wpTree _ _ _ Tr.nil _ _ _; refine tree_nil ?_)))
    go_ret2
    refine ⟨?_, H.below⟩
    simp
  · go_enter Try.func93, Try.ntmps93
    go_wp2_with (go_at_call 104; refine (lead64_ten _).mono ?_; rintro e w' ⟨rfl, rfl⟩)
    rw [d64_and0, d64_or h l hh hl, d64_lo l hl, d64_and _ (by omega)]
    obtain ⟨U, hU⟩ : ∃ U, h * 1152921504606846976 + l / 16 = U := ⟨_, rfl⟩
    obtain ⟨t, ht⟩ : ∃ t, l % 16 = t := ⟨_, rfl⟩
    have bU : U < 11529215046068469760 := by omega
    have bt : t < 16 := by omega
    rw [hU, ht, d64_q U bU, d64_r U bU]
    obtain ⟨q1, hq1⟩ : ∃ q1, U / 2684354560 = q1 := ⟨_, rfl⟩
    obtain ⟨r1, hr1⟩ : ∃ r1, U % 2684354560 = r1 := ⟨_, rfl⟩
    have bq1 : q1 < 4294967296 := by omega
    have br1 : r1 < 2684354560 := by omega
    rw [hq1, hr1]
    have HU := Lib.hid hU
    have HT := Lib.hid ht
    have HQ1 := Lib.hid hq1
    have HR1 := Lib.hid hr1
    clear hU ht hq1 hr1
    go_loopg [15, 16] 0 (fun k q r wr => q = .int .u64 (q1 : Int) ∧ r = .int .u64 (r1 : Int) ∧ wr = w)
    case atStart => exact ⟨rfl, rfl, rfl⟩
    case round =>
      obtain ⟨rfl, rfl, rfl⟩ := hrel
      have hc1 : decide ((4294967296 : Int) ≤ (q1 : Int)) = false := by simp; omega
      have hc2 : decide (4294967296 * (r1 : Int) + (t : Int) * 1152921504606846976 / 4294967296 < 0) = false := by simp; omega
      go_upto_region 22 with (fail)
      clear hc1 hc2
      rw [← HQ1.out, d64_x U t bU bt, HR1.out, HQ1.out]
      obtain ⟨X, hX⟩ : ∃ X, r1 * 4294967296 + t * 268435456 = X := ⟨_, rfl⟩
      have bX : X < 11529215046068469760 := by omega
      rw [hX]
      have HX := Lib.hid hX
      clear hX
      go_upto_region 23 with (fail)
      rw [show (X : Int) / 2684354560 = ((X / 2684354560 : Nat) : Int) by omega]
      obtain ⟨q0, hq0⟩ : ∃ q0, X / 2684354560 = q0 := ⟨_, rfl⟩
      have bq0 : q0 < 4294967296 := by omega
      have bqq : q0 * 2684354560 ≤ X := by omega
      rw [hq0]
      have HQ0 := Lib.hid hq0
      clear hq0
      go_upto_region 24 with (fail)
      obtain ⟨r2, hr2⟩ : ∃ r2, r2 = X - q0 * 2684354560 := ⟨_, rfl⟩
      have er2 : (X : Int) - (q0 : Int) * 2684354560 = (r2 : Int) := by omega
      have br2 : r2 < 2684354560 := by have := HQ0.out; omega
      rw [er2]
      have HR2 := Lib.hid hr2
      clear hr2 er2
      go_loopg [18, 16] 0 (fun k q r w' => q = .int .u64 (q0 : Int) ∧ r = .int .u64 (r2 : Int) ∧ w' = wr)
      case atStart => exact ⟨rfl, rfl, rfl⟩
      case round =>
        obtain ⟨rfl, rfl, rfl⟩ := hrel
        have hc1 : decide ((4294967296 : Int) ≤ (q0 : Int)) = false := by simp; omega
        have hc2 : decide (4294967296 * (r2 : Int) < 0) = false := by simp; omega
        go_wp2
        go_ret2
        refine ⟨?_, Below.refl _ _⟩
        have hU := HU.out
        have hT := HT.out
        have hQ1 := HQ1.out
        have hR1 := HR1.out
        have hX := HX.out
        have hQ0 := HQ0.out
        have hR2 := HR2.out
        have hN := d64_fin h l U t q1 r1 X q0 r2 hU hT hQ1 hR1 hX hQ0 hR2
        have eA : (q1 : Int) * 4294967296 + (q0 : Int) = (((h * 18446744073709551616 + l) / 10 : Nat) : Int) := by rw [hN.1]; omega
        have eB : IntKind.u64.wrap (IntKind.u64.wrap (IntKind.u64.wrap ((X : Int) * 4294967296)) - IntKind.u64.wrap ((q0 : Int) * 11529215046068469760)) / 1152921504606846976 = (((h * 18446744073709551616 + l) % 10 : Nat) : Int) := by
          rw [hN.2]
          exact d64_y2 X q0 r2 bX bqq hR2 br2
        show Ending.returned (Value.tuple #[Value.int .u64 ((q1 : Int) * 4294967296 + (q0 : Int)), Value.int .u64 (IntKind.u64.wrap (IntKind.u64.wrap (IntKind.u64.wrap ((X : Int) * 4294967296)) - IntKind.u64.wrap ((q0 : Int) * 11529215046068469760)) / 1152921504606846976)]) = _
        rw [eA, eB]
end Go.Proofs.Ytmmieilogpmocaa
