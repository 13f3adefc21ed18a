/-
  The walks of the statements of layer 1 (word), second part.
-/
import Derived.Test.YtbdgnggbkdgbmaaLaw01w
namespace Go.Proofs.Ytbdgnggbkdgbmaa
set_option linter.unusedVariables false
open Go.RowKit

theorem law_WordCuts (u b : Int) (w : World) (h1 : 0 ≤ u) (h2 : u ≤ 18446744073709551615) (h3 : -9223372036854775808 ≤ b) (h4 : b ≤ 9223372036854775807) :
    Calls Try.prog 14 #[.int .u64 u, .int .i64 b] w fun e w' => e = .returned (.bool true) ∧ Below w.heap.size w w' := by
  by_cases c1 : b < 1
  · have E := Lib.hid (show cutZ u b = 0 by unfold cutZ; rw [if_pos c1])
    go_enter Try.func14, Try.ntmps14
    go_wp2_with fail
    refine (awake01 _).mono ?_
    rintro e w1 ⟨rfl, hb⟩
    go_wp2_with fail
    refine (cut_any _ _ _ h1 h2).mono ?_
    rintro e w' ⟨rfl, rfl⟩
    rw [E.out]
    go_wp2_with fail
    refine (width_any _ _ h1 h2).mono ?_
    rintro e w' ⟨rfl, rfl⟩
    go_wp2_with fail
    refine (rwidth_any _ _ h1 h2).mono ?_
    rintro e w' ⟨rfl, rfl⟩
    go_wp2_with fail
    go_ret
    exact ⟨rfl, hb⟩
  by_cases c2 : b < 64
  · have E := Lib.hid (show cutZ u b = u % ((2 ^ b.toNat : Nat) : Int) by unfold cutZ; rw [if_neg c1, if_neg (by omega)]; simp)
    have hp : (0 : Int) < ((2 ^ b.toNat : Nat) : Int) := Int.natCast_pos.2 (Nat.pow_pos (by omega))
    obtain ⟨p, hpe⟩ : ∃ p : Int, ((2 ^ b.toNat : Nat) : Int) = p := ⟨_, rfl⟩
    rw [hpe] at E hp
    have HPE := Lib.hid hpe
    clear hpe
    have hp1 : 1 ≤ p := by omega
    have hm1 : 0 ≤ u % p := Int.emod_nonneg _ (by omega)
    have c1' : 1 ≤ b := by omega
    go_enter Try.func14, Try.ntmps14
    go_wp2_with fail
    refine (power_any _ _ (by omega) (by omega)).mono ?_
    rintro e w' ⟨rfl, rfl⟩
    rw [HPE.out]
    go_wp2_with fail
    refine (awake01 _).mono ?_
    rintro e w1 ⟨rfl, hb⟩
    go_wp2_with fail
    refine (cut_any _ _ _ h1 h2).mono ?_
    rintro e w' ⟨rfl, rfl⟩
    rw [E.out]
    go_wp2_with fail
    refine (width_any _ _ h1 h2).mono ?_
    rintro e w' ⟨rfl, rfl⟩
    go_wp2_with fail
    refine (rwidth_any _ _ h1 h2).mono ?_
    rintro e w' ⟨rfl, rfl⟩
    go_wp2_with fail
    go_ret
    exact ⟨rfl, hb⟩
  · have E := Lib.hid (show cutZ u b = u by unfold cutZ; rw [if_neg c1, if_pos (by omega)])
    go_enter Try.func14, Try.ntmps14
    go_wp2_with fail
    refine (awake01 _).mono ?_
    rintro e w1 ⟨rfl, hb⟩
    go_wp2_with fail
    refine (cut_any _ _ _ h1 h2).mono ?_
    rintro e w' ⟨rfl, rfl⟩
    rw [E.out]
    go_wp2_with fail
    refine (width_any _ _ h1 h2).mono ?_
    rintro e w' ⟨rfl, rfl⟩
    go_wp2_with fail
    refine (rwidth_any _ _ h1 h2).mono ?_
    rintro e w' ⟨rfl, rfl⟩
    go_wp2_with fail
    go_ret
    exact ⟨rfl, hb⟩
theorem back_list (a : ByteArray) (l : List UInt8) (c : ByteArray) : (((a ++ ⟨l.toArray⟩ ++ c).data.toList.drop a.size).take l.length) = l := by
  have e : (a ++ ⟨l.toArray⟩ ++ c).data.toList = a.data.toList ++ (l ++ c.data.toList) := by simp
  have ea : a.data.toList.length = a.size := rfl
  rw [e, ← ea, List.drop_left, List.take_left]
theorem back_cut (n k : Nat) (hn : n ≤ 18446744073709551615) (hk : k ≤ 8) : ((n % 256 ^ k : Nat) : Int) = cutZ n (8 * k) := by
  unfold cutZ
  by_cases h0 : k = 0
  · subst h0; simp [Nat.mod_one]
  rw [if_neg (by omega)]
  by_cases h8 : k = 8
  · subst h8; rw [if_pos (by omega)]
    rw [Nat.mod_eq_of_lt]
    have : (256 : Nat) ^ 8 = 18446744073709551616 := by decide
    omega
  · rw [if_neg (by omega)]
    have e1 : ((8 : Int) * k).toNat = 8 * k := by omega
    have e2 : (2 : Int) ^ (8 * k) = ((256 ^ k : Nat) : Int) := by rw [Int.pow_mul]; simp
    rw [e1, e2]; simp
theorem law_WordBack (n m : Int) (a c : ByteArray) (w : World) (h1 : 0 ≤ n) (h2 : n ≤ 18446744073709551615) (h3 : 0 ≤ m) (h4 : m ≤ 255) (ha : a.size ≤ maxLen) (hc : c.size ≤ maxLen) :
    Calls Try.prog 13 #[.int .u64 n, .int .u8 m, .string a, .string c] w fun e w' => e = .returned (.bool true) ∧ Below w.heap.size w w' := by
  unfold maxLen at ha hc
  by_cases c1 : 1000 < a.size
  · go_enter Try.func13, Try.ntmps13
    go_wp2_with fail
    refine (awake01 _).mono ?_
    rintro e w1 ⟨rfl, hb⟩
    go_wp2_with fail
    go_ret
    exact ⟨rfl, hb⟩
  by_cases c2 : 1000 < c.size
  · go_enter Try.func13, Try.ntmps13
    go_wp2_with fail
    refine (awake01 _).mono ?_
    rintro e w1 ⟨rfl, hb⟩
    go_wp2_with fail
    go_ret
    exact ⟨rfl, hb⟩
  obtain ⟨n, rfl⟩ := Int.eq_ofNat_of_zero_le h1
  obtain ⟨m, rfl⟩ := Int.eq_ofNat_of_zero_le h3
  go_enter Try.func13, Try.ntmps13
  go_wp2_with fail
  obtain ⟨k, hk, hk8⟩ : ∃ k : Nat, (m : Int) % 9 = k ∧ k ≤ 8 := ⟨m % 9, by simp, by omega⟩
  rw [hk]
  clear hk h3 h4
  refine (put_nat n k _ (by omega) hk8).mono ?_
  rintro e w1 ⟨rfl, hb1⟩
  have hL := putL_length k n
  have hcut : ((leN (putL k n) : Nat) : Int) = cutZ n (8 * k) := by rw [leN_putL]; exact back_cut n _ (by omega) hk8
  generalize putL k n = L at hL hcut
  subst hL
  have E := Lib.hid (back_list a L c)
  have E2 := Lib.hid hcut
  clear hcut
  have hS : (a ++ ⟨L.toArray⟩ ++ c).size = a.size + L.length + c.size := by simp [ByteArray.size_append]; rfl
  have hS1 : (a ++ ⟨L.toArray⟩ ++ c).size ≤ maxLen := by unfold maxLen; omega
  have hS2 : ((a.size : Nat) : Int) + (L.length : Int) ≤ ((a ++ ⟨L.toArray⟩ ++ c).size : Int) := by omega
  clear hS
  have hc3 : a.size + L.length ≤ 9223372036854775807 := by omega
  have hc4 : a.size + L.length + c.size ≤ 9223372036854775807 := by omega
  have hc5 : (a.size : Int) + L.length + c.size ≤ 9223372036854775807 := by omega
  have HS1 := Lib.hid hS1
  have HS2 := Lib.hid hS2
  clear hS1 hS2
  go_wp2_with fail
  refine (get_yes _ _ _ _ HS1.out (by omega) (by omega) (by omega) HS2.out).mono ?_
  rintro e w' ⟨rfl, rfl⟩
  simp only [Int.toNat_natCast]
  rw [E.out]
  go_wp2_with fail
  refine (awake01 _).mono ?_
  rintro e w2 ⟨rfl, hb2⟩
  go_wp2_with fail
  refine (cut_any _ _ _ h1 h2).mono ?_
  rintro e w' ⟨rfl, rfl⟩
  rw [← E2.out]
  go_wp2_with fail
  go_ret
  exact ⟨rfl, below_trans hb1 hb2⟩
end Go.Proofs.Ytbdgnggbkdgbmaa
