/-
  The walks of layer 1 (word), second part.
-/
import Derived.Test.YtbpclhgbobiahaaWord
import Derived.Deep.LoopGhost
namespace Go.Proofs.Ytbpclhgbobiahaa
set_option linter.unusedVariables false
open Go.RowKit

theorem fold_any (n : Int) (w : World) (h1 : -9223372036854775808 ≤ n) (h2 : n ≤ 9223372036854775807) :
    Calls Try.prog 48 #[.int .i64 n] w fun e w' => e = .returned (.int .u64 (foldZ n)) ∧ w = w' := by
  go_enter Try.func48, Try.ntmps48
  go_wp2
  go_ret
  exact ⟨congrArg (fun x => Ending.returned (.int .u64 x)) (xor_fold n h1 h2), rfl⟩
theorem rfold_any (n : Int) (w : World) (h1 : -9223372036854775808 ≤ n) (h2 : n ≤ 9223372036854775807) :
    Calls Try.prog 50 #[.int .i64 n] w fun e w' => e = .returned (.int .u64 (foldZ n)) ∧ w = w' := by
  by_cases h : 0 ≤ n
  · have e : 2 * n = foldZ n := by unfold foldZ; omega
    have E := Lib.hid e
    clear e
    go_enter Try.func50, Try.ntmps50
    go_wp2
    go_ret
    exact ⟨congrArg (fun x => Ending.returned (.int .u64 x)) E.out, rfl⟩
  · have h' : n < 0 := by omega
    have e : 2 * -(n + 1) + 1 = foldZ n := by unfold foldZ; omega
    have E := Lib.hid e
    clear e
    go_enter Try.func50, Try.ntmps50
    go_wp2
    go_ret
    exact ⟨congrArg (fun x => Ending.returned (.int .u64 x)) E.out, rfl⟩
theorem unfold_any (n : Int) (w : World) (h1 : 0 ≤ n) (h2 : n ≤ 18446744073709551615) :
    Calls Try.prog 59 #[.int .u64 n] w fun e w' => e = .returned (.int .i64 (unfoldZ n)) ∧ w = w' := by
  go_enter Try.func59, Try.ntmps59
  go_wp2
  go_ret
  exact ⟨congrArg (fun x => Ending.returned (.int .i64 x)) (xor_unfold n h1 h2), rfl⟩

theorem get_step (l : List UInt8) (k : Nat) (hk : k < l.length) : leN (l.drop k) = (l[k]).toNat + 256 * leN (l.drop (k+1)) := by
  rw [List.drop_eq_getElem_cons hk, leN]
theorem get_len (s : ByteArray) (at_ size : Nat) (h3 : at_ + size ≤ s.size) : ((s.data.toList.drop at_).take size).length = size := by
  have : s.data.toList.length = s.size := rfl
  simp only [List.length_take, List.length_drop, this]
  omega
theorem get_small (l : List UInt8) (k : Nat) (h0 : 0 < k) (h : l.length ≤ 8) : leN (l.drop k) < 72057594037927936 := by
  have h1 := leN_lt (l.drop k)
  have h2 : 256 ^ (l.drop k).length ≤ 256 ^ 7 := Nat.pow_le_pow_right (by omega) (by simp; omega)
  omega
theorem get_byte (s : ByteArray) (at_ size k : Nat) (h3 : at_ + size ≤ s.size) (hk : k < size) :
    ((s.data.toList.drop at_).take size)[k]? = some (s[at_ + k]'(by omega)) := by
  have e1 : s.data.toList[at_ + k]? = some (s[at_ + k]'(by omega)) := by
    rw [List.getElem?_eq_getElem (by show at_ + k < s.size; omega)]
    rfl
  rw [List.getElem?_take, if_pos hk, List.getElem?_drop, e1]
theorem get_round (s : ByteArray) (at_ size : Nat) (h2 : size ≤ 8) (h3 : at_ + size ≤ s.size) (L : List UInt8)
    (Hlen : L.length = size) (Hby : ∀ k (hk : k < size), L[k]? = some (s[at_ + k]'(by omega))) (j : Nat) (hj : j < size) (hb : at_ + j < s.size) :
    bits .or .u64 ((leN (L.drop (j + 1)) : Int) * 256) (IntKind.u64.wrap ((s[at_ + j]'hb).toNat : Int)) = leN (L.drop j) ∧ (leN (L.drop (j + 1)) : Int) * 256 ≤ 18446744073709551615 := by
  have hl : j < L.length := by omega
  have hsm := get_small L (j + 1) (by omega) (by omega)
  have hst := get_step L j hl
  have hb0 : L[j]'hl = s[at_ + j]'hb := by
    have := Hby j hj
    rw [List.getElem?_eq_getElem hl] at this
    injection this
  have hx : (s[at_ + j]'hb).toNat < 256 := (s[at_ + j]'hb).toNat_lt
  have hor := or_byte (leN (L.drop (j + 1))) (s[at_ + j]'hb).toNat hsm hx
  have hw : IntKind.u64.wrap ((s[at_ + j]'hb).toNat : Int) = ((s[at_ + j]'hb).toNat : Int) := by rw [IntKind.wrap_u64]; omega
  refine ⟨?_, by omega⟩
  rw [hw, hor, hst, hb0]
  omega
theorem get_walk (s : ByteArray) (at_ size : Nat) (w : World) (hs : s.size ≤ maxLen) (h2 : size ≤ 8) (h3 : at_ + size ≤ s.size) (L : List UInt8)
    (Hlen : Hid (L.length = size)) (Hby : Hid (∀ k (hk : k < size), L[k]? = some (s[at_ + k]'(by omega)))) :
    Calls Try.prog 58 #[.string s, .int .i64 at_, .int .i64 size] w fun e w' => e = .returned (.tuple #[.int .u64 (leN L), .bool true]) ∧ w = w' := by
  unfold maxLen at hs
  have d1 : decide ((size : Int) < 0) = false := by simp
  have d2 : decide (8 < (size : Int)) = false := by simp; omega
  have d3 : decide ((at_ : Int) < 0) = false := by simp
  have d4 : decide (s.size < at_) = false := by simp; omega
  have d5 : decide ((s.size : Int) - at_ < size) = false := by simp; omega
  go_enter Try.func58, Try.ntmps58
  go_wp2
  go_loopg [8, 9] size (fun k n i wr => k ≤ size ∧ i = .int .i64 ((k : Int) - 1) ∧ n = .int .u64 (leN (L.drop k)) ∧ w = wr)
  case atStart => exact ⟨Nat.le_refl _, rfl, by rw [← (Hlen.out : L.length = size), List.drop_length]; rfl, rfl⟩
  case round =>
    obtain ⟨hk, rfl, rfl, rfl⟩ := hrel
    by_cases hlt : 0 < gk
    · obtain ⟨j, rfl⟩ : ∃ j, gk = j + 1 := ⟨gk - 1, by omega⟩
      obtain ⟨F, f2⟩ := get_round s at_ size h2 h3 L Hlen.out Hby.out j (by omega) (by omega)
      have F' := Lib.hid F
      clear F
      go_wp2
      go_roundg j
      case rel => exact ⟨by omega, by go_num, by rw [F'.out], rfl⟩
      case measure => omega
    · obtain rfl : gk = 0 := by omega
      go_wp2
      go_ret2
      exact ⟨rfl, rfl⟩
theorem get_yes (s : ByteArray) (at_ size : Int) (w : World) (hs : s.size ≤ maxLen) (h0 : 0 ≤ at_) (h1 : 0 ≤ size) (h2 : size ≤ 8) (h3 : at_ + size ≤ s.size) :
    Calls Try.prog 58 #[.string s, .int .i64 at_, .int .i64 size] w fun e w' => e = .returned (.tuple #[.int .u64 (leN ((s.data.toList.drop at_.toNat).take size.toNat)), .bool true]) ∧ w = w' := by
  obtain ⟨at_, rfl⟩ := Int.eq_ofNat_of_zero_le h0
  obtain ⟨size, rfl⟩ := Int.eq_ofNat_of_zero_le h1
  exact get_walk s at_ size w hs (by omega) (by omega) _ (Lib.hid (get_len s at_ size (by omega))) (Lib.hid (fun k hk => get_byte s at_ size k (by omega) hk))
theorem get_no (s : ByteArray) (at_ size : Int) (w : World) (_hs : s.size ≤ maxLen) (a1 : -9223372036854775808 ≤ at_) (a2 : at_ ≤ 9223372036854775807) (h : size < 0 ∨ 8 < size ∨ at_ < 0 ∨ s.size < at_ ∨ s.size - at_ < size) :
    Calls Try.prog 58 #[.string s, .int .i64 at_, .int .i64 size] w fun e w' => e = .returned (.tuple #[.int .u64 0, .bool false]) ∧ w = w' := by
  unfold maxLen at _hs
  by_cases g1 : size < 0
  · go_enter Try.func58, Try.ntmps58
    go_wp2
    go_ret2
    exact ⟨rfl, rfl⟩
  by_cases g2 : 8 < size
  · go_enter Try.func58, Try.ntmps58
    go_wp2
    go_ret2
    exact ⟨rfl, rfl⟩
  by_cases g3 : at_ < 0
  · go_enter Try.func58, Try.ntmps58
    go_wp2
    go_ret2
    exact ⟨rfl, rfl⟩
  by_cases g4 : (s.size : Int) < at_
  · go_enter Try.func58, Try.ntmps58
    go_wp2
    go_ret2
    exact ⟨rfl, rfl⟩
  have g5 : s.size - at_ < size := by omega
  go_enter Try.func58, Try.ntmps58
  go_wp2
  go_ret2
  exact ⟨rfl, rfl⟩
end Go.Proofs.Ytbpclhgbobiahaa
