/-
  The walks of layer 1 (word), fourth part: Fits, Cut, and the document's examples.
-/
import Derived.Test.YtbdgnggbkdgbmaaWord3
namespace Go.Proofs.Ytbdgnggbkdgbmaa
set_option linter.unusedVariables false
open Go.RowKit

def fitsB (n b : Int) : Bool := decide (-(2 ^ (b.toNat - 1) : Int) ≤ n ∧ n < 2 ^ (b.toNat - 1))
theorem fits_div (n : Int) (k : Nat) : (n / 2 ^ k = 0 ∨ n / 2 ^ k = -1) ↔ (-(2 ^ k : Int) ≤ n ∧ n < 2 ^ k) := by
  have hp : (0 : Int) < 2 ^ k := Int.pow_pos (by omega)
  generalize (2 : Int) ^ k = p at *
  have h1 := Int.mul_ediv_add_emod n p
  have h2 := Int.emod_nonneg n (show p ≠ 0 by omega)
  have h3 := Int.emod_lt_of_pos n hp
  constructor
  · rintro (h | h)
    · rw [h] at h1; omega
    · rw [h] at h1; omega
  · rintro ⟨h4, h5⟩
    by_cases h : 0 ≤ n
    · left; exact Int.ediv_eq_zero_of_lt h h5
    · right
      have : (n + p) / p = 0 := Int.ediv_eq_zero_of_lt (by omega) (by omega)
      have h6 := Int.mul_ediv_add_emod (n + p) p
      have h7 := Int.emod_nonneg (n + p) (show p ≠ 0 by omega)
      rw [this] at h6
      have h8 : (n + p) % p = n % p := Int.add_emod_right n p
      rw [h8] at h6
      have h9 : p * (n / p) = p * (-1) := by omega
      exact Int.eq_of_mul_eq_mul_left (show p ≠ 0 by omega) h9
theorem fits_any (n b : Int) (w : World) (g1 : 1 ≤ b) (g2 : b ≤ 64) :
    Calls Try.prog 29 #[.int .i64 n, .int .i64 b] w fun e w' => e = .returned (.bool (fitsB n b)) ∧ w = w' := by
  have hd := fits_div n (b.toNat - 1)
  by_cases c1 : n / 2 ^ (b.toNat - 1) = 0
  · have e : fitsB n b = true := by unfold fitsB; simp; exact hd.1 (.inl c1)
    have E := Lib.hid e
    clear hd e
    go_enter Try.func29, Try.ntmps29
    go_wp2
    go_ret
    exact ⟨by rw [E.out]; rfl, rfl⟩
  · by_cases c2 : n / 2 ^ (b.toNat - 1) = -1
    · have e : fitsB n b = true := by unfold fitsB; simp; exact hd.1 (.inr c2)
      have E := Lib.hid e
      clear hd e
      go_enter Try.func29, Try.ntmps29
      go_wp2
      go_ret
      exact ⟨by rw [E.out]; rfl, rfl⟩
    · have e : fitsB n b = false := by
        unfold fitsB
        rw [decide_eq_false_iff_not]
        intro h
        rcases hd.2 h with h | h
        · exact c1 h
        · exact c2 h
      have E := Lib.hid e
      have c3 : (n / 2 ^ (b.toNat - 1) == 0) = false := by simpa using c1
      have c4 : (n / 2 ^ (b.toNat - 1) == -1) = false := by simpa using c2
      clear hd e c1 c2
      go_enter Try.func29, Try.ntmps29
      go_wp2
      go_ret
      exact ⟨by rw [E.out]; simp, rfl⟩
theorem fits_no (n b : Int) (w : World) (h : b < 1 ∨ 64 < b) :
    Calls Try.prog 29 #[.int .i64 n, .int .i64 b] w fun e w' => e = .returned (.bool false) ∧ w = w' := by
  rcases h with h | h
  · go_enter Try.func29, Try.ntmps29
    go_wp2
    go_ret
    exact ⟨rfl, rfl⟩
  · have h' : ¬ b < 1 := by omega
    go_enter Try.func29, Try.ntmps29
    go_wp2
    go_ret
    exact ⟨rfl, rfl⟩
theorem rfits_any (n b : Int) (w : World) (h1 : -9223372036854775808 ≤ n) (h2 : n ≤ 9223372036854775807) (g1 : 1 ≤ b) (g2 : b ≤ 64) :
    Calls Try.prog 30 #[.int .i64 n, .int .i64 b] w fun e w' => e = .returned (.bool (fitsB n b)) ∧ w = w' := by
  by_cases c : n < 0
  · have e : decide (-(n + 1) < (2 : Int) ^ (b.toNat - 1)) = fitsB n b := by
      unfold fitsB
      generalize (2 : Int) ^ (b.toNat - 1) = p
      rw [decide_eq_decide]
      omega
    have E := Lib.hid e
    clear e
    go_enter Try.func30, Try.ntmps30
    go_wp2_with (go_at_call 32; refine (power_any _ _ (by omega) (by omega)).mono ?_; rintro e w' ⟨rfl, rfl⟩)
    go_ret
    exact ⟨by rw [← E.out]; rfl, rfl⟩
  · have e : decide (n < (2 : Int) ^ (b.toNat - 1)) = fitsB n b := by
      unfold fitsB
      generalize (2 : Int) ^ (b.toNat - 1) = p
      rw [decide_eq_decide]
      omega
    have E := Lib.hid e
    clear e
    go_enter Try.func30, Try.ntmps30
    go_wp2_with (go_at_call 32; refine (power_any _ _ (by omega) (by omega)).mono ?_; rintro e w' ⟨rfl, rfl⟩)
    go_ret
    exact ⟨by rw [← E.out]; rfl, rfl⟩

theorem and_mask (m k : Nat) (hm : m ≤ 18446744073709551615) (hk : k < 64) : bits .and .u64 (m : Int) (((2 ^ k - 1 : Nat)) : Int) = ((m % 2 ^ k : Nat) : Int) := by
  have h3 : (2 : Nat) ^ k ≤ 2 ^ 63 := Nat.pow_le_pow_right (by omega) (by omega)
  rw [u64_and_nat _ _ (by omega) (by omega), Nat.and_two_pow_sub_one_eq_mod]
theorem cut_bits (m k : Nat) (hm : m ≤ 18446744073709551615) (hk : k < 64) : bits .and .u64 (m : Int) (IntKind.u64.wrap (IntKind.u64.wrap (2 ^ k) - 1)) = ((m % 2 ^ k : Nat) : Int) := by
  have h3 : (2 : Nat) ^ k ≤ 2 ^ 63 := Nat.pow_le_pow_right (by omega) (by omega)
  have h4 : (2 : Nat) ^ 63 = 9223372036854775808 := by decide
  have h5 : 0 < (2 : Nat) ^ k := Nat.pow_pos (by omega)
  have e : (2 : Int) ^ k = ((2 ^ k : Nat) : Int) := by simp
  rw [← and_mask m k hm hk, e, IntKind.wrap_u64, IntKind.wrap_u64]
  congr 1
  omega
theorem cut_any (u b : Int) (w : World) (h1 : 0 ≤ u) (h2 : u ≤ 18446744073709551615) :
    Calls Try.prog 31 #[.int .u64 u, .int .i64 b] w fun e w' => e = .returned (.int .u64 (cutZ u b)) ∧ w = w' := by
  by_cases c1 : b < 1
  · have E := Lib.hid (show cutZ u b = 0 by unfold cutZ; rw [if_pos c1])
    go_enter Try.func31, Try.ntmps31
    go_wp2
    go_ret
    exact ⟨by rw [E.out]; rfl, rfl⟩
  by_cases c2 : 64 ≤ b
  · have E := Lib.hid (show cutZ u b = u by unfold cutZ; rw [if_neg c1, if_pos c2])
    go_enter Try.func31, Try.ntmps31
    go_wp2
    go_ret
    exact ⟨by rw [E.out]; rfl, rfl⟩
  · obtain ⟨m, rfl⟩ := Int.eq_ofNat_of_zero_le h1
    go_enter Try.func31, Try.ntmps31
    go_wp2
    go_ret
    have e : cutZ (m : Int) b = ((m % 2 ^ b.toNat : Nat) : Int) := by
      unfold cutZ
      rw [if_neg (by omega), if_neg (by omega)]
      simp
    rw [e, ← cut_bits m b.toNat (by omega) (by omega)]
    exact ⟨rfl, rfl⟩
end Go.Proofs.Ytbdgnggbkdgbmaa
