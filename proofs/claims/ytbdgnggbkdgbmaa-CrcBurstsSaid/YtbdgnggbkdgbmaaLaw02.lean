/-
  The walks of the statements of layer 2 (crc): CrcSeals, CrcBack, CrcOpens, CrcSums.
-/
import Derived.Test.YtbdgnggbkdgbmaaCrcRef
namespace Go.Proofs.Ytbdgnggbkdgbmaa
set_option linter.unusedVariables false
open Go.RowKit

theorem four_bytes (x : Nat) (hx : x < 4294967296) : putL 4 x = [UInt8.ofNat (x % 256), UInt8.ofNat (x / 256 % 256), UInt8.ofNat (x / 65536 % 256), UInt8.ofNat (x / 16777216)] := by
  have e : x / 256 / 256 / 256 % 256 = x / 16777216 := by omega
  have e2 : x / 256 / 256 % 256 = x / 65536 % 256 := by omega
  simp only [putL, e, e2]
theorem rseal_any (s : ByteArray) (w : World) (hs : s.size ≤ 1000000) :
    Calls Try.prog 19 #[.string s] w fun e w' => e = .returned (.string ⟨(sealL s.data.toList).toArray⟩) ∧ Below w.heap.size w w' := by
  have hlt := (crcSum s.data.toList).isLt
  generalize hx : (crcSum s.data.toList).toNat = x at hlt
  have hx2 : (x : Int) ≤ 4294967295 := by omega
  have E := Lib.hid (show s ++ (⟨[UInt8.ofNat (x % 256), UInt8.ofNat (x / 256 % 256), UInt8.ofNat (x / 65536 % 256), UInt8.ofNat (x / 16777216)].toArray⟩ : ByteArray) = ⟨(sealL s.data.toList).toArray⟩ by rw [ba_append, sealL, hx, four_bytes x hlt])
  have HX := Lib.hid hx
  have hL1 : s.size + 4 ≤ 9223372036854775807 := by omega
  clear hx hlt
  go_enter Try.func19, Try.ntmps19
  go_wp2_with fail
  refine (rsum_any s _ (by omega)).mono ?_
  rintro e w1 ⟨rfl, hb⟩
  rw [HX.out]
  have hc := run_convert_new (P := Try.prog) w1 41 9 5 Try.underlying41 Try.underlying5 Try.underlying9
    #[.int .u8 ((x : Int) % 256), .int .u8 ((x : Int) / 256 % 256), .int .u8 ((x : Int) / 65536 % 256), .int .u8 ((x : Int) / 16777216)]
    [UInt8.ofNat (x % 256), UInt8.ofNat (x / 256 % 256), UInt8.ofNat (x / 65536 % 256), UInt8.ofNat (x / 16777216)] (by simp; omega) 4 4 rfl 5
  go_wp2_with fail
  go_ret
  exact ⟨by rw [← E.out]; rfl, hb.alloc hb.size _⟩

theorem law_CrcSeals (s : ByteArray) (w : World) (hs : s.size ≤ maxLen) :
    Calls Try.prog 4 #[.string s] w fun e w' => e = .returned (.bool true) ∧ Below w.heap.size w w' := by
  unfold maxLen at hs
  by_cases c : (20000 : Int) < s.size
  · go_enter Try.func4, Try.ntmps4
    go_wp2_with fail
    go_ret
    exact ⟨rfl, Below.refl _ _⟩
  · have hs1 : s.size ≤ 1000000 := by omega
    go_enter Try.func4, Try.ntmps4
    go_wp2_with fail
    refine (awake02 _).mono ?_
    rintro e w1 ⟨rfl, hb1⟩
    go_wp2_with fail
    refine (seal_any s _ hs1).mono ?_
    rintro e w2 ⟨rfl, hb2⟩
    go_wp2_with fail
    refine (rseal_any s _ hs1).mono ?_
    rintro e w3 ⟨rfl, hb3⟩
    go_wp2_with fail
    go_ret
    exact ⟨rfl, below_trans hb1 (below_trans hb2 hb3)⟩
theorem law_CrcBack (s : ByteArray) (w : World) (hs : s.size ≤ maxLen) :
    Calls Try.prog 10 #[.string s] w fun e w' => e = .returned (.bool true) ∧ Below w.heap.size w w' := by
  unfold maxLen at hs
  by_cases c : (20000 : Int) < s.size
  · go_enter Try.func10, Try.ntmps10
    go_wp2_with fail
    refine (awake02 _).mono ?_
    rintro e w1 ⟨rfl, hb1⟩
    go_wp2_with fail
    go_ret
    exact ⟨rfl, hb1⟩
  · have hs1 : s.size ≤ 1000000 := by omega
    have hS := sealL_length s.data.toList
    have hl : s.data.toList.length = s.size := rfl
    have E1 := Lib.hid (open_seal s.data.toList)
    have E2 := Lib.hid (show (⟨(sealL s.data.toList).toArray⟩ : ByteArray).extract 0 ((⟨(sealL s.data.toList).toArray⟩ : ByteArray).size - 4) = s by
      apply ByteArray.ext
      apply Array.toList_inj.1
      rw [extract_list]
      have : (⟨(sealL s.data.toList).toArray⟩ : ByteArray).size = s.size + 4 := by show (sealL s.data.toList).toArray.size = _; rw [List.size_toArray, hS, hl]
      rw [this]
      rw [show s.size + 4 - 4 - 0 = s.data.toList.length from by omega]
      show ((sealL s.data.toList).drop 0).take _ = _
      rw [List.drop_zero, sealL, List.take_left])
    have hsz : (⟨(sealL s.data.toList).toArray⟩ : ByteArray).size ≤ 1000000 := by show (sealL s.data.toList).toArray.size ≤ _; rw [List.size_toArray, hS, hl]; omega
    have E3 : (⟨(sealL s.data.toList).toArray⟩ : ByteArray).data.toList = sealL s.data.toList := rfl
    generalize hq : (⟨(sealL s.data.toList).toArray⟩ : ByteArray) = q at E2 hsz E3
    rw [← E3] at E1
    have HQ := Lib.hid hq
    clear hq E3 hS hl
    go_enter Try.func10, Try.ntmps10
    go_wp2_with fail
    refine (seal_any s _ hs1).mono ?_
    rintro e w2 ⟨rfl, hb2⟩
    rw [HQ.out]
    go_wp2_with fail
    refine (open_any q _ hsz).mono ?_
    rintro e w3 ⟨rfl, hb3⟩
    rw [E1.out, if_pos rfl, E2.out]
    go_wp2_with fail
    refine (awake02 _).mono ?_
    rintro e w4 ⟨rfl, hb4⟩
    go_wp2_with fail
    go_ret
    exact ⟨rfl, below_trans hb2 (below_trans hb3 hb4)⟩
theorem law_CrcOpens (s : ByteArray) (w : World) (hs : s.size ≤ maxLen) :
    Calls Try.prog 11 #[.string s] w fun e w' => e = .returned (.bool true) ∧ Below w.heap.size w w' := by
  unfold maxLen at hs
  by_cases c : (20000 : Int) < s.size
  · go_enter Try.func11, Try.ntmps11
    go_wp2_with fail
    refine (awake02 _).mono ?_
    rintro e w1 ⟨rfl, hb1⟩
    go_wp2_with fail
    go_ret
    exact ⟨rfl, hb1⟩
  have hs1 : s.size ≤ 1000000 := by omega
  by_cases c4 : (s.size : Int) < 4
  · go_enter Try.func11, Try.ntmps11
    go_wp2_with fail
    refine (open_short s _ (by omega)).mono ?_
    rintro e w' ⟨rfl, rfl⟩
    go_wp2_with fail
    refine (awake02 _).mono ?_
    rintro e w2 ⟨rfl, hb2⟩
    go_wp2_with fail
    go_ret
    exact ⟨rfl, hb2⟩
  · have hl : s.data.toList.length = s.size := rfl
    obtain ⟨t, ht⟩ : ∃ t, s.extract 0 (s.size - 4) = t := ⟨_, rfl⟩
    have htl : t.data.toList = s.data.toList.take (s.size - 4) := by rw [← ht, extract_list]; simp
    have ht1 : t.size ≤ 1000000 := by rw [← ht, ByteArray.size_extract]; omega
    by_cases he : sealL (s.data.toList.take (s.size - 4)) = s.data.toList
    · have hB : openB s.data.toList = true := by
        unfold openB
        rw [hl, he]
        simp
        omega
      have HB := Lib.hid hB
      have HT := Lib.hid ht
      have HS := Lib.hid (show (⟨(sealL t.data.toList).toArray⟩ : ByteArray) = s by rw [htl, he])
      clear hB ht htl he hl
      go_enter Try.func11, Try.ntmps11
      go_wp2_with fail
      refine (open_any s _ hs1).mono ?_
      rintro e w1 ⟨rfl, hb1⟩
      rw [HB.out, if_pos rfl, HT.out]
      go_wp2_with fail
      rw [HT.out]
      refine (rseal_any t _ ht1).mono ?_
      rintro e w2 ⟨rfl, hb2⟩
      rw [HS.out]
      go_wp2_with fail
      refine (awake02 _).mono ?_
      rintro e w3 ⟨rfl, hb3⟩
      have HT2 := HT.out
      go_wp2_with fail
      go_ret
      exact ⟨rfl, below_trans hb1 (below_trans hb2 hb3)⟩
    · have hB : openB s.data.toList = false := by
        unfold openB
        rw [hl]
        simp [he]
      have hne : (⟨(sealL t.data.toList).toArray⟩ : ByteArray) ≠ s := by
        intro e
        rw [htl] at e
        exact he (by simpa using congrArg (fun b : ByteArray => b.data.toList) e)
      obtain ⟨q, hq⟩ : ∃ q, (⟨(sealL t.data.toList).toArray⟩ : ByteArray) = q := ⟨_, rfl⟩
      rw [hq] at hne
      have hne2 := str_ne hne
      have HB := Lib.hid hB
      have HT := Lib.hid ht
      have HQ := Lib.hid hq
      clear hB ht htl he hl hq hne
      go_enter Try.func11, Try.ntmps11
      go_wp2_with fail
      refine (open_any s _ hs1).mono ?_
      rintro e w1 ⟨rfl, hb1⟩
      rw [HB.out, if_neg (by simp)]
      go_wp2_with fail
      rw [HT.out]
      refine (rseal_any t _ ht1).mono ?_
      rintro e w2 ⟨rfl, hb2⟩
      rw [HQ.out]
      go_wp2_with fail
      refine (awake02 _).mono ?_
      rintro e w3 ⟨rfl, hb3⟩
      go_wp2_with fail
      go_ret
      exact ⟨rfl, below_trans hb1 (below_trans hb2 hb3)⟩
end Go.Proofs.Ytbdgnggbkdgbmaa
