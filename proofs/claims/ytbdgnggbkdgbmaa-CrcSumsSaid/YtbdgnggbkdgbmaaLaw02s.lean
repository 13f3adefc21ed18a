/-
  The walk of the statement CrcSums.
-/
import Derived.Test.YtbdgnggbkdgbmaaLaw02
namespace Go.Proofs.Ytbdgnggbkdgbmaa
set_option linter.unusedVariables false
open Go.RowKit

theorem sums_end (A : Option Addr) (cap : Nat) (L : List ByteArray) (S : ByteArray) (hl : L.length ≤ maxLen) (hs : ∀ s ∈ L, s.size ≤ maxLen) (hS : S.data.toList = bytesOf L) (h1 : S.size ≤ 1000000) :
    (∀ w, Row w A (L.map Value.string) → Calls Try.prog 16 #[.slice A L.length cap] w fun e w' => e = .returned (.int .u32 ((crcSum S.data.toList).toNat : Int)) ∧ w = w') := by
  intro w hr
  rw [hS]
  exact sum_any A cap L w hl hs hr
theorem law_sums_nil (A : Option Addr) (cap : Nat) (w : World) :
    Calls Try.prog 3 #[.slice A 0 cap] w fun e w' => e = .returned (.bool true) ∧ Below w.heap.size w w' := by
  go_enter Try.func3, Try.ntmps3
  go_wp2
  refine wp_loop_rounds 1 ?_
  rw [rounds_succ]
  go_wp2_with fail
  refine (awake02 _).mono ?_
  rintro e w1 ⟨rfl, hb1⟩
  go_wp2_with fail
  refine (sum_none A cap _).mono ?_
  rintro e w' ⟨rfl, rfl⟩
  go_wp2_with fail
  refine (rsum_any ⟨#[]⟩ _ (by decide)).mono ?_
  rintro e w2 ⟨rfl, hb2⟩
  go_wp2_with fail
  refine (seal_any ⟨#[]⟩ _ (by decide)).mono ?_
  rintro e w3 ⟨rfl, hb3⟩
  go_wp2_with fail
  refine (rseal_any ⟨#[]⟩ _ (by decide)).mono ?_
  rintro e w4 ⟨rfl, hb4⟩
  go_wp2_with fail
  go_ret
  exact ⟨rfl, below_trans hb1 (below_trans hb2 (below_trans hb3 hb4))⟩
theorem law_sums_some (L : List ByteArray) (b off cap : Nat) (w : World) (hl : L.length ≤ maxLen) (hs : Hid (∀ s ∈ L, s.size ≤ maxLen))
    (hc : Hid (∀ j (hj : j < L.length), w.cell? ⟨b, off + j, none⟩ = some (.string L[j]))) (hr : Hid (Row w (some ⟨b, off, none⟩) (L.map Value.string))) :
    Calls Try.prog 3 #[.slice (some ⟨b, off, none⟩) L.length cap] w fun e w' => e = .returned (.bool true) ∧ Below w.heap.size w w' := by
  have hl' := Lib.hid hl
  unfold maxLen at hl
  go_enter Try.func3, Try.ntmps3
  go_wp2
  go_loopg [3, 4] L.length (fun k s i wr => ∃ j : Nat, ∃ S : ByteArray, k + j = L.length ∧ S.data.toList = bytesOf (L.take j) ∧ S.size ≤ 40000 ∧ s = .string S ∧ i = .int .i64 j ∧ w = wr)
  case atStart => exact ⟨0, ⟨#[]⟩, rfl, rfl, by decide, rfl, rfl, rfl⟩
  case round =>
    obtain ⟨j, S, hj, hS, hS4, rfl, rfl, rfl⟩ := hrel
    by_cases hlt : 0 < gk
    · have hjs : j < L.length := by omega
      have hc1 := hc.out j hjs
      have hs1 : (L[j]'hjs).size ≤ 9223372036854775807 := by
        have := hs.out _ (List.getElem_mem hjs)
        unfold maxLen at this
        omega
      have hn := bytesOf_snoc L j hjs
      rw [← hS] at hn
      have H := Lib.hid (And.intro hj hn)
      clear hj hS hn
      generalize L[j]'hjs = s at hc1 hs1 H
      by_cases c1 : (100 : Int) < j
      · go_wp2_with fail
        refine (awake02 _).mono ?_
        rintro e w1 ⟨rfl, hb1⟩
        go_wp2_with fail
        go_ret
        exact ⟨rfl, hb1⟩
      by_cases c2 : (20000 : Int) < s.size
      · go_wp2_with fail
        refine (awake02 _).mono ?_
        rintro e w1 ⟨rfl, hb1⟩
        go_wp2_with fail
        go_ret
        exact ⟨rfl, hb1⟩
      by_cases c3 : (20000 : Int) < S.size
      · go_wp2_with fail
        refine (awake02 _).mono ?_
        rintro e w1 ⟨rfl, hb1⟩
        go_wp2_with fail
        go_ret
        exact ⟨rfl, hb1⟩
      · have hsum : S.size + s.size ≤ 9223372036854775807 := by omega
        go_wp2
        go_roundg (gk - 1)
        case rel =>
          obtain ⟨hj, hn⟩ := H.out
          exact ⟨j + 1, S ++ s, by omega, by rw [hn]; simp, by rw [ByteArray.size_append]; omega, rfl, by go_num, rfl⟩
        case measure => omega
    · have hjs : ¬ j < L.length := by omega
      have e : S.data.toList = bytesOf L := by rw [hS, List.take_of_length_le (by omega)]
      have HE := Lib.hid e
      have HS1 : S.size ≤ 1000000 := by omega
      clear hj hS e
      go_wp2_with fail
      refine (awake02 _).mono ?_
      rintro e w1 ⟨rfl, hb1⟩
      go_wp2_with fail
      refine (sums_end _ cap L S hl'.out hs.out HE.out HS1 _ (hr.out.below hb1)).mono ?_
      rintro e w' ⟨rfl, rfl⟩
      go_wp2_with fail
      refine (rsum_any S _ (by omega)).mono ?_
      rintro e w2 ⟨rfl, hb2⟩
      go_wp2_with fail
      refine (seal_any S _ HS1).mono ?_
      rintro e w3 ⟨rfl, hb3⟩
      go_wp2_with fail
      refine (rseal_any S _ HS1).mono ?_
      rintro e w4 ⟨rfl, hb4⟩
      go_wp2_with fail
      go_ret
      exact ⟨rfl, below_trans hb1 (below_trans hb2 (below_trans hb3 hb4))⟩
theorem law_CrcSums (A : Option Addr) (cap : Nat) (L : List ByteArray) (w : World) (hl : L.length ≤ maxLen) (hs : ∀ s ∈ L, s.size ≤ maxLen) (hr : Row w A (L.map Value.string)) :
    Calls Try.prog 3 #[.slice A L.length cap] w fun e w' => e = .returned (.bool true) ∧ Below w.heap.size w w' := by
  by_cases h0 : L.length = 0
  · rw [h0]
    exact law_sums_nil A cap w
  · have hr' := hr
    obtain ⟨b, off, rfl, hc⟩ := hr (by simp; omega)
    exact law_sums_some L b off cap w hl (Lib.hid hs) (Lib.hid fun j hj => hc j _ (by simp [hj])) (Lib.hid hr')
end Go.Proofs.Ytbdgnggbkdgbmaa
