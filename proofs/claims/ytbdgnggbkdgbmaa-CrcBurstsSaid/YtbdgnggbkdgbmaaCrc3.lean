/-
  The walks of layer 2 (crc): Open, and the document's example.
-/
import Derived.Test.YtbdgnggbkdgbmaaCrc2
import Derived.Test.YtbdgnggbkdgbmaaLaw01w
namespace Go.Proofs.Ytbdgnggbkdgbmaa
set_option linter.unusedVariables false
open Go.RowKit

theorem str_ne {a s : ByteArray} (h : a ≠ s) : (a.toList == s.toList) = false := by
  rw [ByteArray.toList_eq, ByteArray.toList_eq]
  simp only [beq_eq_false_iff_ne, ne_eq]
  intro e
  exact h (ByteArray.ext (Array.toList_inj.1 e))
theorem open_short (s : ByteArray) (w : World) (hs : s.size < 4) :
    Calls Try.prog 28 #[.string s] w fun e w' => e = .returned (.tuple #[.string ⟨#[]⟩, .bool false]) ∧ w = w' := by
  have hn : (s.size : Int) - 4 < 0 := by omega
  go_enter Try.func28, Try.ntmps28
  go_wp2
  go_ret2
  exact ⟨rfl, rfl⟩
theorem open_yes (s t : ByteArray) (w : World) (hs : s.size ≤ 1000000) (h4 : 4 ≤ s.size) (ht : s.extract 0 (s.size - 4) = t) (he : (⟨(sealL t.data.toList).toArray⟩ : ByteArray) = s) :
    Calls Try.prog 28 #[.string s] w fun e w' => e = .returned (.tuple #[.string t, .bool true]) ∧ Below w.heap.size w w' := by
  have hn : ¬ (s.size : Int) - 4 < 0 := by omega
  have ht1 : t.size ≤ 1000000 := by rw [← ht, ByteArray.size_extract]; omega
  have HT := Lib.hid ht
  have HE := Lib.hid he
  clear ht he
  go_enter Try.func28, Try.ntmps28
  go_wp2_with fail
  rw [HT.out]
  refine (seal_any t _ ht1).mono ?_
  rintro e w1 ⟨rfl, hb⟩
  rw [HE.out]
  go_wp2_with fail
  go_ret2
  exact ⟨by rw [← HT.out]; rfl, hb⟩
theorem open_no (s t : ByteArray) (w : World) (hs : s.size ≤ 1000000) (h4 : 4 ≤ s.size) (ht : s.extract 0 (s.size - 4) = t) (he : (⟨(sealL t.data.toList).toArray⟩ : ByteArray) ≠ s) :
    Calls Try.prog 28 #[.string s] w fun e w' => e = .returned (.tuple #[.string ⟨#[]⟩, .bool false]) ∧ Below w.heap.size w w' := by
  have hn : ¬ (s.size : Int) - 4 < 0 := by omega
  have ht1 : t.size ≤ 1000000 := by rw [← ht, ByteArray.size_extract]; omega
  have hsz : s.size ≤ 9223372036854775807 := by omega
  have HT := Lib.hid ht
  clear ht
  generalize hA : (⟨(sealL t.data.toList).toArray⟩ : ByteArray) = a at he
  have HA := Lib.hid hA
  have hne := str_ne he
  clear hA he
  go_enter Try.func28, Try.ntmps28
  go_wp2_with fail
  rw [HT.out]
  refine (seal_any t _ ht1).mono ?_
  rintro e w1 ⟨rfl, hb⟩
  rw [HA.out]
  go_wp2_with fail
  go_ret2
  exact ⟨rfl, hb⟩

def openB (l : List UInt8) : Bool := decide (4 ≤ l.length) && decide (sealL (l.take (l.length - 4)) = l)
/-- Open, of any bytes. -/
theorem open_any (s : ByteArray) (w : World) (hs : s.size ≤ 1000000) :
    Calls Try.prog 28 #[.string s] w fun e w' => e = .returned (.tuple #[.string (if openB s.data.toList then s.extract 0 (s.size - 4) else ⟨#[]⟩), .bool (openB s.data.toList)]) ∧ Below w.heap.size w w' := by
  have hl : s.data.toList.length = s.size := rfl
  by_cases h4 : 4 ≤ s.size
  · have ht : (s.extract 0 (s.size - 4)).data.toList = s.data.toList.take (s.size - 4) := by rw [extract_list]; simp
    by_cases he : sealL (s.data.toList.take (s.size - 4)) = s.data.toList
    · have hB : openB s.data.toList = true := by simp [openB, h4, he]
      rw [hB, if_pos rfl]
      exact open_yes s _ w hs h4 rfl (by rw [ht, he])
    · have hB : openB s.data.toList = false := by simp [openB, he]
      rw [hB, if_neg (by simp)]
      exact open_no s _ w hs h4 rfl (by
        rw [ht]
        intro e
        exact he (by simpa using congrArg (fun b : ByteArray => b.data.toList) e))
  · have hB : openB s.data.toList = false := by simp [openB]; omega
    rw [hB, if_neg (by simp)]
    exact (open_short s w (by omega)).mono fun e w' ⟨he, hw⟩ => ⟨he, hw ▸ Below.refl _ _⟩

theorem open_seal (l : List UInt8) : openB (sealL l) = true := by
  simp only [openB, sealL_length]
  have e : (sealL l).take (l.length + 4 - 4) = l := by simp [sealL]
  rw [e]
  simp

/-- The document's example of layer 2 (crc). -/
theorem sum_ex : (crcSum (bytesOf [⟨#[49, 50, 51, 52]⟩, ⟨#[53, 54, 55, 56, 57]⟩])).toNat = 3421780262 := by decide +kernel
theorem awake02 (w : World) : Calls Try.prog 15 #[] w fun e w' => e = .returned (.bool true) ∧ Below w.heap.size w w' := by
  go_enter Try.func15, Try.ntmps15
  go_wp2_with fail
  refine (sum_any _ _ [⟨#[49, 50, 51, 52]⟩, ⟨#[53, 54, 55, 56, 57]⟩] _ (by decide) (by decide) (Row.new _ _ _ _ rfl)).mono ?_
  rintro e w' ⟨rfl, rfl⟩
  rw [sum_ex]
  go_wp2_with fail
  refine (sum_none _ _ _).mono ?_
  rintro e w' ⟨rfl, rfl⟩
  go_wp2_with fail
  go_ret
  exact ⟨rfl, below_alloc1 _ _⟩
end Go.Proofs.Ytbdgnggbkdgbmaa
