/-
  The walks of layer 2 (crc): Sum of any parts, Seal, Open.
-/
import Derived.Test.YtbdgnggbkdgbmaaCrc
namespace Go.Proofs.Ytbdgnggbkdgbmaa
set_option linter.unusedVariables false
open Go.RowKit

theorem sum_none (A : Option Addr) (cap : Nat) (w : World) :
    Calls Try.prog 16 #[.slice A 0 cap] w fun e w' => e = .returned (.int .u32 ((crcSum []).toNat : Int)) ∧ w = w' := by
  go_enter Try.func16, Try.ntmps16
  go_wp2
  refine wp_loop_rounds 1 ?_
  rw [rounds_succ]
  go_wp2
  go_ret
  exact ⟨congrArg (fun z => Ending.returned (Value.int IntKind.u32 z)) (crc_not (BitVec.allOnes 32)), rfl⟩
theorem sum_any (A : Option Addr) (cap : Nat) (L : List ByteArray) (w : World) (hl : L.length ≤ maxLen) (hs : ∀ s ∈ L, s.size ≤ maxLen) (hr : Row w A (L.map Value.string)) :
    Calls Try.prog 16 #[.slice A L.length cap] w fun e w' => e = .returned (.int .u32 ((crcSum (bytesOf L)).toNat : Int)) ∧ w = w' := by
  by_cases h0 : L.length = 0
  · obtain rfl : L = [] := List.eq_nil_of_length_eq_zero h0
    exact sum_none A cap w
  · obtain ⟨b, off, rfl, hc⟩ := hr (by simp; omega)
    exact sum_some L b off cap w hl (Lib.hid hs) (Lib.hid fun j hj => hc j _ (by simp [hj]))

/-- The sealed text's bytes. -/
def sealL (l : List UInt8) : List UInt8 := l ++ putL 4 (crcSum l).toNat
theorem sealL_length (l : List UInt8) : (sealL l).length = l.length + 4 := by simp [sealL, putL_length]
theorem bytesOf_one (s : ByteArray) : bytesOf [s] = s.data.toList := by simp [bytesOf]
theorem ba_append (s : ByteArray) (l : List UInt8) : s ++ (⟨l.toArray⟩ : ByteArray) = ⟨(s.data.toList ++ l).toArray⟩ := by
  apply ByteArray.ext
  simp

theorem seal_any (s : ByteArray) (w : World) (hs : s.size ≤ 1000000) :
    Calls Try.prog 18 #[.string s] w fun e w' => e = .returned (.string ⟨(sealL s.data.toList).toArray⟩) ∧ Below w.heap.size w w' := by
  have hlt := (crcSum s.data.toList).isLt
  generalize hx : (crcSum s.data.toList).toNat = x at hlt
  have hx2 : x < 4294967296 := by omega
  have hL := putL_length 4 x
  have E := Lib.hid (show s ++ (⟨(putL 4 x).toArray⟩ : ByteArray) = ⟨(sealL s.data.toList).toArray⟩ by rw [ba_append, sealL, hx])
  generalize hP : putL 4 x = L at hL E
  have HP := Lib.hid hP
  have HX := Lib.hid hx
  have hL1 : s.size + L.length ≤ 9223372036854775807 := by omega
  have HL := Lib.hid hL
  clear hx hP hlt hL
  go_enter Try.func18, Try.ntmps18
  go_wp2_with fail
  refine (sum_any _ _ [s] _ (by unfold maxLen; simp) (by intro t ht; simp at ht; subst ht; unfold maxLen; omega) (Row.new _ _ _ _ rfl)).mono ?_
  rintro e w' ⟨rfl, rfl⟩
  rw [bytesOf_one, HX.out]
  go_wp2_with fail
  refine (put_nat x 4 _ (by omega) (by omega)).mono ?_
  rintro e w1 ⟨rfl, hb⟩
  rw [HP.out]
  go_wp2_with fail
  go_ret
  exact ⟨by rw [← E.out]; rfl, below_trans (below_alloc1 _ _) hb⟩
end Go.Proofs.Ytbdgnggbkdgbmaa
