/-
  The walks of layer 1 (word), third part: the references' and the rest.
-/
import Derived.Test.YtbdgnggbkdgbmaaWord2
namespace Go.Proofs.Ytbdgnggbkdgbmaa
set_option linter.unusedVariables false
open Go.RowKit

theorem str_append (a b : List UInt8) : (⟨a.toArray⟩ : ByteArray) ++ ⟨b.toArray⟩ = ⟨(a ++ b).toArray⟩ := by
  apply ByteArray.ext
  simp

/-- ref.Put. -/
theorem rput_nat (n size : Nat) (w : World) (h2 : n ≤ 18446744073709551615) (h4 : size ≤ 8) :
    Calls Try.prog 22 #[.int .u64 n, .int .i64 size] w fun e w' => e = .returned (.string ⟨(putL size n).toArray⟩) ∧ Below w.heap.size w w' := by
  go_enter Try.func22, Try.ntmps22
  go_wp2
  go_loopg [0, 5, 6] size (fun k m s i wr => ∃ j y : Nat, ∃ L : List UInt8, k + j = size ∧ n / 256 ^ j = y ∧ putL j n = L ∧ m = .int .u64 y ∧ s = .string ⟨L.toArray⟩ ∧ i = .int .i64 j ∧ Below w.heap.size w wr)
  case atStart => exact ⟨0, n, [], rfl, by simp, rfl, rfl, rfl, rfl, Below.refl _ _⟩
  case round =>
    obtain ⟨j, y, L, hj, hy, hL, rfl, rfl, rfl, hb⟩ := hrel
    by_cases hlt : 0 < gk
    · have hm : y ≤ 18446744073709551615 := by rw [← hy]; exact Nat.le_trans (Nat.div_le_self _ _) h2
      have hl : L.length ≤ 8 := by rw [← hL, putL_length]; omega
      have H := Lib.hid (And.intro hj (And.intro hy hL))
      have hjs : (j : Int) < size := by omega
      have hc := run_convert_new (P := Try.prog) wr 41 9 5 Try.underlying41 Try.underlying5 Try.underlying9 #[.int .u8 ((y : Int) % 256)] [UInt8.ofNat (y % 256)] (by simp) 1 1 rfl 5
      clear hj hy hL
      go_wp2
      go_roundg (gk - 1)
      case rel =>
        obtain ⟨hj, hy, hL⟩ := H.out
        exact ⟨j + 1, y / 256, L ++ [UInt8.ofNat (y % 256)], by omega, by rw [← hy, Nat.div_div_eq_div_mul, Nat.pow_succ], by rw [putL_snoc, hL, hy], by go_num, congrArg Value.string (str_append _ _), by go_num, hb.alloc hb.size _⟩
      case measure => omega
    · obtain rfl : gk = 0 := by omega
      have H := Lib.hid (And.intro hj (And.intro hy hL))
      have hjs : ¬ (j : Int) < size := by omega
      clear hj hy hL
      go_wp2
      go_ret
      obtain ⟨hj, hy, hL⟩ := H.out
      exact ⟨by rw [← hj, Nat.zero_add, hL]; rfl, hb⟩
theorem rput_yes (n size : Int) (w : World) (h1 : 0 ≤ n) (h2 : n ≤ 18446744073709551615) (h3 : 0 ≤ size) (h4 : size ≤ 8) :
    Calls Try.prog 22 #[.int .u64 n, .int .i64 size] w fun e w' => e = .returned (.string ⟨(putL size.toNat n.toNat).toArray⟩) ∧ Below w.heap.size w w' := by
  obtain ⟨n, rfl⟩ := Int.eq_ofNat_of_zero_le h1
  obtain ⟨size, rfl⟩ := Int.eq_ofNat_of_zero_le h3
  exact rput_nat n size w (by omega) (by omega)

/-- ref.Get: of at most eight bytes. -/
theorem rget_round (L : List UInt8) (h8 : L.length ≤ 8) (k : Nat) (hk : k < L.length) :
    (IntKind.u64.wrap (leN (L.take k) + IntKind.u64.wrap (IntKind.u64.wrap ((L[k]'hk).toNat : Int) * ((256 ^ k : Nat) : Int))) = leN (L.take (k + 1))) := by
  have h1 : L.take (k + 1) = L.take k ++ [L[k]'hk] := by rw [List.take_succ_eq_append_getElem hk]
  have h2 : leN (L.take (k + 1)) = leN (L.take k) + 256 ^ k * (L[k]'hk).toNat := by
    rw [h1, leN_append]
    simp [leN, Nat.min_eq_left (Nat.le_of_lt hk)]
  have h3 := leN_lt (L.take (k + 1))
  have h4 : (256 : Nat) ^ (L.take (k + 1)).length ≤ 256 ^ 8 := Nat.pow_le_pow_right (by omega) (by simp; omega)
  have h5 : (256 : Nat) ^ 8 = 18446744073709551616 := by decide
  have hx : (L[k]'hk).toNat < 256 := (L[k]'hk).toNat_lt
  have e0 : IntKind.u64.wrap ((L[k]'hk).toNat : Int) = ((L[k]'hk).toNat : Int) := by rw [IntKind.wrap_u64]; omega
  have e1 : ((L[k]'hk).toNat : Int) * ((256 ^ k : Nat) : Int) = ((256 ^ k * (L[k]'hk).toNat : Nat) : Int) := by rw [Nat.mul_comm]; simp
  rw [e0, e1, IntKind.wrap_u64, IntKind.wrap_u64, h2]
  omega
theorem pow_in (k : Nat) (h : k < 8) : IntKind.u64.wrap ((256 ^ k : Nat) : Int) = ((256 ^ k : Nat) : Int) ∧ ((256 ^ k : Nat) : Int) * 256 = ((256 ^ (k + 1) : Nat) : Int) := by
  have h4 : (256 : Nat) ^ k ≤ 256 ^ 7 := Nat.pow_le_pow_right (by omega) (by omega)
  have h5 : (256 : Nat) ^ 7 = 72057594037927936 := by decide
  have h6 : ((256 ^ k : Nat) : Int) ≤ 72057594037927936 := by rw [h5] at h4; exact Int.ofNat_le.2 h4
  have h7 : 0 ≤ ((256 ^ k : Nat) : Int) := Int.natCast_nonneg _
  refine ⟨by rw [IntKind.wrap_u64]; generalize ((256 ^ k : Nat) : Int) = z at *; omega, by rw [Nat.pow_succ]; simp⟩
theorem rget_any (s : ByteArray) (w : World) (hs : s.size ≤ 8) :
    Calls Try.prog 24 #[.string s] w fun e w' => e = .returned (.int .u64 (leN s.data.toList)) ∧ w = w' := by
  go_enter Try.func24, Try.ntmps24
  go_wp2
  go_loopg [3, 4, 5] s.size (fun k n p i wr => ∃ j : Nat, ∃ y q : Int, k + j = s.size ∧ (leN (s.data.toList.take j) : Int) = y ∧ IntKind.u64.wrap ((256 ^ j : Nat) : Int) = q ∧ n = .int .u64 y ∧ p = .int .u64 q ∧ i = .int .i64 j ∧ w = wr)
  case atStart => exact ⟨0, 0, 1, rfl, rfl, rfl, rfl, rfl, rfl, rfl⟩
  case round =>
    obtain ⟨j, y, q, hj, hy, hq, rfl, rfl, rfl, rfl⟩ := hrel
    by_cases hlt : 0 < gk
    · have hjs : j < s.size := by omega
      have hlen : s.data.toList.length = s.size := rfl
      have hr := rget_round s.data.toList (by omega) j (by omega)
      have hp := pow_in j (by omega)
      have eb : s.data.toList[j]'(by omega) = s[j] := rfl
      rw [hy, ← hp.1, hq, eb] at hr
      have h2 : q * 256 = ((256 ^ (j + 1) : Nat) : Int) := by rw [← hq, hp.1, hp.2]
      have H := Lib.hid (And.intro hj (And.intro hr h2))
      clear hj hy hq hr h2 hp eb hlen
      go_wp2
      go_roundg (gk - 1)
      case rel =>
        obtain ⟨hj, hr, h2⟩ := H.out
        exact ⟨j + 1, _, _, by omega, hr.symm, by rw [← h2], rfl, rfl, by go_num, rfl⟩
      case measure => omega
    · obtain rfl : gk = 0 := by omega
      have hjs : ¬ j < s.size := by omega
      have e : (leN s.data.toList : Int) = y := by
        rw [← hy, List.take_of_length_le]
        have hlen : s.data.toList.length = s.size := rfl
        omega
      have H := Lib.hid e
      clear hj hy hq e
      go_wp2
      go_ret
      exact ⟨by rw [H.out]; rfl, rfl⟩

/-- ref.Power. -/
theorem power_any (n : Int) (w : World) (h1 : 0 ≤ n) (h2 : n ≤ 63) :
    Calls Try.prog 32 #[.int .i64 n] w fun e w' => e = .returned (.int .u64 ((2 ^ n.toNat : Nat) : Int)) ∧ w = w' := by
  obtain ⟨m, rfl⟩ := Int.eq_ofNat_of_zero_le h1
  go_enter Try.func32, Try.ntmps32
  go_wp2
  go_loopg [3, 4] m (fun k p i wr => ∃ j : Nat, ∃ q : Int, k + j = m ∧ ((2 ^ j : Nat) : Int) = q ∧ p = .int .u64 q ∧ i = .int .i64 j ∧ w = wr)
  case atStart => exact ⟨0, 1, rfl, rfl, rfl, rfl, rfl⟩
  case round =>
    obtain ⟨j, q, hj, hq, rfl, rfl, rfl⟩ := hrel
    by_cases hlt : 0 < gk
    · have hjs : (j : Int) < m := by omega
      have h3 : (2 : Nat) ^ (j + 1) ≤ 2 ^ 63 := Nat.pow_le_pow_right (by omega) (by omega)
      have h4 : (2 : Nat) ^ 63 = 9223372036854775808 := by decide
      have h5 : (2 : Nat) ^ (j + 1) = 2 * 2 ^ j := by rw [Nat.pow_succ, Nat.mul_comm]
      have q1 : 0 ≤ q := by omega
      have q2 : 2 * q ≤ 18446744073709551615 := by omega
      have e : ((2 ^ (j + 1) : Nat) : Int) = 2 * q := by rw [h5, ← hq]; simp
      have H := Lib.hid (And.intro hj e)
      clear hj hq h3 h4 h5 e
      go_wp2
      go_roundg (gk - 1)
      case rel =>
        obtain ⟨hj, e⟩ := H.out
        exact ⟨j + 1, _, by omega, e, rfl, by go_num, rfl⟩
      case measure => omega
    · obtain rfl : gk = 0 := by omega
      have hjs : ¬ (j : Int) < m := by omega
      obtain rfl : m = j := by omega
      have H := Lib.hid hq
      clear hj hq
      go_wp2
      go_ret
      exact ⟨by rw [← H.out]; simp, rfl⟩

/-- Width, the program's and the reference's. -/
theorem width_any (n : Int) (w : World) (h1 : 0 ≤ n) (h2 : n ≤ 18446744073709551615) :
    Calls Try.prog 33 #[.int .u64 n] w fun e w' => e = .returned (.int .i64 (bitsN n.toNat)) ∧ w = w' := by
  obtain ⟨m, rfl⟩ := Int.eq_ofNat_of_zero_le h1
  have hle : bitsN m ≤ 64 := bitsN_le 64 m (by omega)
  go_enter Try.func33, Try.ntmps33
  go_wp2
  go_loopg [0, 3] (bitsN m) (fun k u i wr => ∃ y j : Nat, bitsN y = k ∧ j + bitsN y = bitsN m ∧ y ≤ 18446744073709551615 ∧ u = .int .u64 y ∧ i = .int .i64 j ∧ w = wr)
  case atStart => exact ⟨m, 0, rfl, by omega, by omega, rfl, rfl, rfl⟩
  case round =>
    obtain ⟨y, j, hk, hj, hy, rfl, rfl, rfl⟩ := hrel
    by_cases h0 : 0 < y
    · have hp := bitsN_pos y h0
      have hjj : (j : Int) ≤ 64 := by omega
      have h0' : (0 : Int) < y := by omega
      have H := Lib.hid (And.intro hp (And.intro hk hj))
      clear hp hk hj
      go_wp2
      go_roundg (bitsN (y / 2))
      case rel =>
        obtain ⟨hp, hk, hj⟩ := H.out
        exact ⟨y / 2, j + 1, rfl, by omega, by omega, by go_num, by go_num, rfl⟩
      case measure => obtain ⟨hp, hk, hj⟩ := H.out; omega
    · obtain rfl : y = 0 := by omega
      rw [bitsN_zero] at hj
      have H := Lib.hid hj
      clear hj hk
      go_wp2
      go_ret
      exact ⟨by simp only [Int.toNat_natCast]; rw [← H.out]; rfl, rfl⟩
theorem rwidth_any (n : Int) (w : World) (h1 : 0 ≤ n) (h2 : n ≤ 18446744073709551615) :
    Calls Try.prog 34 #[.int .u64 n] w fun e w' => e = .returned (.int .i64 (bitsN n.toNat)) ∧ w = w' := by
  obtain ⟨m, rfl⟩ := Int.eq_ofNat_of_zero_le h1
  have hle : bitsN m ≤ 64 := bitsN_le 64 m (by omega)
  go_enter Try.func34, Try.ntmps34
  go_wp2
  go_loopg [0, 3] (bitsN m) (fun k u i wr => ∃ y j : Nat, bitsN y = k ∧ j + bitsN y = bitsN m ∧ y ≤ 18446744073709551615 ∧ u = .int .u64 y ∧ i = .int .i64 j ∧ w = wr)
  case atStart => exact ⟨m, 0, rfl, by omega, by omega, rfl, rfl, rfl⟩
  case round =>
    obtain ⟨y, j, hk, hj, hy, rfl, rfl, rfl⟩ := hrel
    by_cases h0 : 0 < y
    · have hp := bitsN_pos y h0
      have hjj : (j : Int) ≤ 64 := by omega
      have h0' : (0 : Int) < y := by omega
      have H := Lib.hid (And.intro hp (And.intro hk hj))
      clear hp hk hj
      go_wp2
      go_roundg (bitsN (y / 2))
      case rel =>
        obtain ⟨hp, hk, hj⟩ := H.out
        exact ⟨y / 2, j + 1, rfl, by omega, by omega, by go_num, by go_num, rfl⟩
      case measure => obtain ⟨hp, hk, hj⟩ := H.out; omega
    · obtain rfl : y = 0 := by omega
      rw [bitsN_zero] at hj
      have H := Lib.hid hj
      clear hj hk
      go_wp2
      go_ret
      exact ⟨by simp only [Int.toNat_natCast]; rw [← H.out]; rfl, rfl⟩
end Go.Proofs.Ytbdgnggbkdgbmaa
