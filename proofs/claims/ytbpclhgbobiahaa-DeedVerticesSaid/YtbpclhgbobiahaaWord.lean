/-
  The walks of layer 1 (word): what each function of the program, and of the reference, computes.
-/
import Derived.Test.YtbpclhgbobiahaaRows
import Derived.Test.YtbpclhgbobiahaaBase
import Derived.Test.YtbpclhgbobiahaaWordP
namespace Go.Proofs.Ytbpclhgbobiahaa
set_option linter.unusedVariables false
open Go.RowKit

theorem Try.infoU8 : (Try.prog.info? 5).map (fun i => (i.zero, i.size, i.bytes)) = some (some (.int .u8 0), 1, 1) := by kernel_rfl

def byteV (n : Nat) (j : Nat) : Value := .int .u8 ((n : Int) / 2 ^ (8 * j) % 256)
theorem byteV_eq (n j : Nat) : byteV n j = .int .u8 ((UInt8.ofNat (n / 256 ^ j % 256)).toNat : Int) := by
  unfold byteV
  congr 1
  have h1 : (UInt8.ofNat (n / 256 ^ j % 256)).toNat = n / 256 ^ j % 256 := by simp
  rw [h1]
  have h2 : (2 : Int) ^ (8 * j) = ((256 ^ j : Nat) : Int) := by
    rw [Int.pow_mul]
    simp
  rw [h2]
  simp
theorem put_cells (n k : Nat) : rowC (byteV n) (.int .u8 0) k k = ((putL k n).map fun b => Value.int .u8 (b.toNat : Int)).toArray := by
  rw [rowC_full]
  congr 1
  apply List.ext_getElem?
  intro j
  by_cases h : j < k
  · simp only [List.getElem?_map, putL_get _ _ _ h, List.getElem?_range h, Option.map_some, byteV_eq]
  · rw [List.getElem?_eq_none (by simp; omega), List.getElem?_eq_none (by simp [putL_length]; omega)]

/-- word.Put, at a size that may be. -/
theorem put_nat (n size : Nat) (w : World) (h2 : n ≤ 18446744073709551615) (h4 : size ≤ 8) :
    Calls Try.prog 36 #[.int .u64 n, .int .i64 size] w fun e w' => e = .returned (.string ⟨(putL size n).toArray⟩) ∧ Below w.heap.size w w' := by
  obtain ⟨i0, hi, hz0, hz1, hz2⟩ := info_parts Try.infoU8
  have hmk := fun w => make_nat (P := Try.prog) 89 5 i0 _ 1 1 Try.underlying89 hi hz0 hz1 hz2 size size (Nat.le_refl _) (by omega) (by omega) w
  simp only [Value.cells, Nat.mul_one, rowC_zero (byteV n)] at hmk
  clear hz0 hz1 hz2 hi
  go_enter Try.func36, Try.ntmps36
  go_wp2
  go_loopw [16] (fun i wr => ∃ k : Nat, k ≤ size ∧ i = .int .i64 k ∧ wr = w.alloc (.cells (rowC (byteV n) (.int .u8 0) size k) 5)) (fun i _ => size - (intOf i).toNat)
  case atStart => exact ⟨0, Nat.zero_le _, rfl, rfl⟩
  case round =>
    obtain ⟨k, hk, rfl, rfl⟩ := hrel
    by_cases hlt : k < size
    · have hg := rowC_at (byteV n) (.int .u8 0) size k hlt
      go_wp2
      go_roundw
      case rel => exact ⟨k + 1, by omega, by go_num, by rw [← rowC_set]; rfl⟩
      case measure => simp [intOf]; omega
    · obtain rfl : k = size := by omega
      have hc := run_convert_new (P := Try.prog) w 89 9 5 Try.underlying89 Try.underlying5 Try.underlying9 _ _ (put_cells n k) k k (putL_length k n).symm 5
      go_wp2
      go_ret
      exact ⟨rfl, below_alloc1 _ _⟩
theorem put_yes (n size : Int) (w : World) (h1 : 0 ≤ n) (h2 : n ≤ 18446744073709551615) (h3 : 0 ≤ size) (h4 : size ≤ 8) :
    Calls Try.prog 36 #[.int .u64 n, .int .i64 size] w fun e w' => e = .returned (.string ⟨(putL size.toNat n.toNat).toArray⟩) ∧ Below w.heap.size w w' := by
  obtain ⟨n, rfl⟩ := Int.eq_ofNat_of_zero_le h1
  obtain ⟨size, rfl⟩ := Int.eq_ofNat_of_zero_le h3
  exact put_nat n size w (by omega) (by omega)
theorem put_no (n size : Int) (w : World) (h : size < 0 ∨ 8 < size) :
    Calls Try.prog 36 #[.int .u64 n, .int .i64 size] w fun e w' => e = .returned (.string ⟨#[]⟩) ∧ Below w.heap.size w w' := by
  rcases h with h | h
  · go_enter Try.func36, Try.ntmps36
    go_wp2
    go_ret
    exact ⟨rfl, Below.refl _ _⟩
  · have h' : ¬ size < 0 := by omega
    go_enter Try.func36, Try.ntmps36
    go_wp2
    go_ret
    exact ⟨rfl, Below.refl _ _⟩
end Go.Proofs.Ytbpclhgbobiahaa
