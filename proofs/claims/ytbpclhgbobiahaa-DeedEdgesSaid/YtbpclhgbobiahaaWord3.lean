/-
  The walks of layer 1 (word), third part: the references' and the rest.
-/
import Derived.Test.YtbpclhgbobiahaaWord2
namespace Go.Proofs.Ytbpclhgbobiahaa
set_option linter.unusedVariables false
open Go.RowKit

theorem str_append (a b : List UInt8) : (⟨a.toArray⟩ : ByteArray) ++ ⟨b.toArray⟩ = ⟨(a ++ b).toArray⟩ := by
  apply ByteArray.ext
  simp

/-- ref.Put. -/
theorem rput_nat (n size : Nat) (w : World) (h2 : n ≤ 18446744073709551615) (h4 : size ≤ 8) :
    Calls Try.prog 49 #[.int .u64 n, .int .i64 size] w fun e w' => e = .returned (.string ⟨(putL size n).toArray⟩) ∧ Below w.heap.size w w' := by
  go_enter Try.func49, Try.ntmps49
  go_wp2
  go_loopg [0, 5, 6] size (fun k m s i wr => ∃ j y : Nat, ∃ L : List UInt8, k + j = size ∧ n / 256 ^ j = y ∧ putL j n = L ∧ m = .int .u64 y ∧ s = .string ⟨L.toArray⟩ ∧ i = .int .i64 j ∧ Below w.heap.size w wr)
  case atStart => exact ⟨0, n, [], rfl, by simp, rfl, rfl, rfl, rfl, Below.refl _ _⟩
  case round =>
    obtain ⟨j, y, L, hj, hy, hL, rfl, rfl, rfl, hb⟩ := hrel
    by_cases hlt : 0 < gk
    · have hm : y ≤ 18446744073709551615 := by rw [← hy]; exact Nat.le_trans (Nat.div_le_self _ _) h2
      have hl : L.length ≤ 8 := by rw [← hL, putL_length]; omega
      have H := Lib.hid (And.intro hj (And.intro hy hL))
      have hjs : (j : Int) < size := by omega
      have hc := run_convert_new (P := Try.prog) wr 89 9 5 Try.underlying89 Try.underlying5 Try.underlying9 #[.int .u8 ((y : Int) % 256)] [UInt8.ofNat (y % 256)] (by simp) 1 1 rfl 5
      clear hj hy hL
      go_wp2
      go_roundg (gk - 1)
      case rel =>
        obtain ⟨hj, hy, hL⟩ := H.out
        exact ⟨j + 1, y / 256, L ++ [UInt8.ofNat (y % 256)], by omega, by rw [← hy, Nat.div_div_eq_div_mul, Nat.pow_succ], by rw [putL_snoc, hL, hy], by go_num, congrArg Value.string (str_append _ _), by go_num, hb.alloc hb.size _⟩
      case measure => omega
    · obtain rfl : gk = 0 := by omega
      have H := Lib.hid (And.intro hj (And.intro hy hL))
      have hjs : ¬ (j : Int) < size := by omega
      clear hj hy hL
      go_wp2
      go_ret
      obtain ⟨hj, hy, hL⟩ := H.out
      exact ⟨by rw [← hj, Nat.zero_add, hL]; rfl, hb⟩
theorem rput_yes (n size : Int) (w : World) (h1 : 0 ≤ n) (h2 : n ≤ 18446744073709551615) (h3 : 0 ≤ size) (h4 : size ≤ 8) :
    Calls Try.prog 49 #[.int .u64 n, .int .i64 size] w fun e w' => e = .returned (.string ⟨(putL size.toNat n.toNat).toArray⟩) ∧ Below w.heap.size w w' := by
  obtain ⟨n, rfl⟩ := Int.eq_ofNat_of_zero_le h1
  obtain ⟨size, rfl⟩ := Int.eq_ofNat_of_zero_le h3
  exact rput_nat n size w (by omega) (by omega)

/-- ref.Get: of at most eight bytes. -/
theorem rget_round (L : List UInt8) (h8 : L.length ≤ 8) (k : Nat) (hk : k < L.length) :
    (IntKind.u64.wrap (leN (L.take k) + IntKind.u64.wrap (IntKind.u64.wrap ((L[k]'hk).toNat : Int) * ((256 ^ k : Nat) : Int))) = leN (L.take (k + 1))) := by
  have h1 : L.take (k + 1) = L.take k ++ [L[k]'hk] := by rw [List.take_succ_eq_append_getElem hk]
  have h2 : leN (L.take (k + 1)) = leN (L.take k) + 256 ^ k * (L[k]'hk).toNat := by
    rw [h1, leN_append]
    simp [leN, Nat.min_eq_left (Nat.le_of_lt hk)]
  have h3 := leN_lt (L.take (k + 1))
  have h4 : (256 : Nat) ^ (L.take (k + 1)).length ≤ 256 ^ 8 := Nat.pow_le_pow_right (by omega) (by simp; omega)
  have h5 : (256 : Nat) ^ 8 = 18446744073709551616 := by decide
  have hx : (L[k]'hk).toNat < 256 := (L[k]'hk).toNat_lt
  have e0 : IntKind.u64.wrap ((L[k]'hk).toNat : Int) = ((L[k]'hk).toNat : Int) := by rw [IntKind.wrap_u64]; omega
  have e1 : ((L[k]'hk).toNat : Int) * ((256 ^ k : Nat) : Int) = ((256 ^ k * (L[k]'hk).toNat : Nat) : Int) := by rw [Nat.mul_comm]; simp
  rw [e0, e1, IntKind.wrap_u64, IntKind.wrap_u64, h2]
  omega
theorem pow_in (k : Nat) (h : k < 8) : IntKind.u64.wrap ((256 ^ k : Nat) : Int) = ((256 ^ k : Nat) : Int) ∧ ((256 ^ k : Nat) : Int) * 256 = ((256 ^ (k + 1) : Nat) : Int) := by
  have h4 : (256 : Nat) ^ k ≤ 256 ^ 7 := Nat.pow_le_pow_right (by omega) (by omega)
  have h5 : (256 : Nat) ^ 7 = 72057594037927936 := by decide
  have h6 : ((256 ^ k : Nat) : Int) ≤ 72057594037927936 := by rw [h5] at h4; exact Int.ofNat_le.2 h4
  have h7 : 0 ≤ ((256 ^ k : Nat) : Int) := Int.natCast_nonneg _
  refine ⟨by rw [IntKind.wrap_u64]; generalize ((256 ^ k : Nat) : Int) = z at *; omega, by rw [Nat.pow_succ]; simp⟩
end Go.Proofs.Ytbpclhgbobiahaa
