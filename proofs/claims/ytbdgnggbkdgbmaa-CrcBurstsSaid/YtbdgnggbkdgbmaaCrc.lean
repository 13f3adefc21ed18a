/-
  The walks of layer 2 (crc): the program's own functions.
-/
import Derived.Test.YtbdgnggbkdgbmaaWord5
import Derived.Test.YtbdgnggbkdgbmaaCrcP
namespace Go.Proofs.Ytbdgnggbkdgbmaa
set_option linter.unusedVariables false
open Go.RowKit

def bytesOf (L : List ByteArray) : List UInt8 := (L.map fun s => s.data.toList).flatten
theorem bytesOf_snoc (L : List ByteArray) (j : Nat) (h : j < L.length) : bytesOf (L.take (j + 1)) = bytesOf (L.take j) ++ (L[j]'h).data.toList := by
  rw [List.take_succ_eq_append_getElem h]
  unfold bytesOf
  rw [List.map_append, List.flatten_append]
  simp
theorem crcL_snoc (x : W32) (s : ByteArray) (m : Nat) (h : m < s.size) : crcL x (s.data.toList.take (m + 1)) = crcBits 8 (crcL x (s.data.toList.take m) ^^^ byteW (s[m]'h)) := by
  have h' : m < s.data.toList.length := h
  rw [List.take_succ_eq_append_getElem h', crcL_append]
  rfl

theorem sum_some (L : List ByteArray) (b off cap : Nat) (w : World) (hl : L.length ≤ maxLen) (hs : Hid (∀ s ∈ L, s.size ≤ maxLen))
    (hc : Hid (∀ j (hj : j < L.length), w.cell? ⟨b, off + j, none⟩ = some (.string L[j]))) :
    Calls Try.prog 16 #[.slice (some ⟨b, off, none⟩) L.length cap] w fun e w' => e = .returned (.int .u32 ((crcSum (bytesOf L)).toNat : Int)) ∧ w = w' := by
  unfold maxLen at hl
  go_enter Try.func16, Try.ntmps16
  go_wp2
  go_loopg [3, 10] L.length (fun k r i wr => ∃ j : Nat, ∃ x : W32, k + j = L.length ∧ crcL (BitVec.allOnes 32) (bytesOf (L.take j)) = x ∧ r = .int .u32 (x.toNat : Int) ∧ i = .int .i64 j ∧ w = wr)
  case atStart => exact ⟨0, BitVec.allOnes 32, rfl, rfl, rfl, rfl, rfl⟩
  case round =>
    obtain ⟨j, x, hj, hx, rfl, rfl, rfl⟩ := hrel
    obtain ⟨g1, rfl⟩ : ∃ g, g = gk := ⟨_, rfl⟩
    by_cases hlt : 0 < g1
    · have hjs : j < L.length := by omega
      have hc1 := hc.out j hjs
      have hs1 : (L[j]'hjs).size ≤ 9223372036854775807 := by
        have := hs.out _ (List.getElem_mem hjs)
        unfold maxLen at this
        omega
      have hn : crcL (BitVec.allOnes 32) (bytesOf (L.take (j + 1))) = crcL x (L[j]'hjs).data.toList := by rw [bytesOf_snoc L j hjs, crcL_append, hx]
      have H := Lib.hid (And.intro hj hn)
      clear hj hx hn
      generalize L[j]'hjs = s at hc1 hs1 H
      go_wp2
      go_loopg [3, 16] s.size (fun k r i wr => ∃ m : Nat, ∃ y : W32, k + m = s.size ∧ crcL x (s.data.toList.take m) = y ∧ r = .int .u32 (y.toNat : Int) ∧ i = .int .i64 m ∧ w = wr)
      case atStart => exact ⟨0, x, rfl, rfl, rfl, rfl, rfl⟩
      case round =>
        obtain ⟨m, y, hm, hy, rfl, rfl, rfl⟩ := hrel
        obtain ⟨g2, rfl⟩ : ∃ g, g = gk := ⟨_, rfl⟩
        by_cases hlt2 : 0 < g2
        · have hms : m < s.size := by omega
          have hn2 : crcL x (s.data.toList.take (m + 1)) = crcBits 8 (y ^^^ byteW (s[m]'hms)) := by rw [crcL_snoc x s m hms, hy]
          have hf : bits .xor .u32 (y.toNat : Int) (((s[m]'hms).toNat : Int) % 4294967296) = ((y ^^^ byteW (s[m]'hms)).toNat : Int) := by
            have hx : (s[m]'hms).toNat < 256 := (s[m]'hms).toNat_lt
            rw [Int.emod_eq_of_lt (by omega) (by omega)]
            exact crc_feed y _
          generalize y ^^^ byteW (s[m]'hms) = z at hf hn2
          have H2 := Lib.hid (And.intro hm hn2)
          clear hm hy hn2
          go_wp2
          go_loopg [3, 25] 8 (fun k r i wr => ∃ c : Nat, ∃ q : W32, k + c = 8 ∧ crcBits c z = q ∧ r = .int .u32 (q.toNat : Int) ∧ i = .int .i64 c ∧ w = wr)
          case atStart => exact ⟨0, z, rfl, rfl, rfl, rfl, rfl⟩
          case round =>
            obtain ⟨c, q, hcc, hq, rfl, rfl, rfl⟩ := hrel
            obtain ⟨g3, rfl⟩ : ∃ g, g = gk := ⟨_, rfl⟩
            by_cases hlt3 : 0 < g3
            · have hc8 : (c : Int) < 8 := by omega
              have H3 := Lib.hid (And.intro hcc hq)
              have hst := Lib.hid (crc_step q)
              clear hcc hq
              go_wp2
              go_roundg (g3 - 1)
              case rel =>
                obtain ⟨hcc, hq⟩ := H3.out
                exact ⟨c + 1, _, by omega, by rw [crcBits_succ, hq], congrArg (Value.int IntKind.u32) (by rw [IntKind.wrap_u32] at hst; exact hst.out), by go_num, rfl⟩
              case measure => omega
            · have hc8 : ¬ (c : Int) < 8 := by omega
              have hcc' : c = 8 := by omega
              subst hcc'
              have H3 := Lib.hid hq
              clear hcc hq
              go_wp2
              go_roundg (g2 - 1)
              case rel =>
                obtain ⟨hm, hn2⟩ := H2.out
                exact ⟨m + 1, q, by omega, by rw [hn2, H3.out], rfl, by go_num, rfl⟩
              case measure => omega
        · have hms : ¬ m < s.size := by omega
          have hy2 : crcL x s.data.toList = y := by
            rw [← hy, List.take_of_length_le]
            have : s.data.toList.length = s.size := rfl
            omega
          have H2 := Lib.hid hy2
          clear hm hy hy2
          go_wp2
          go_roundg (g1 - 1)
          case rel =>
            obtain ⟨hj, hn⟩ := H.out
            exact ⟨j + 1, y, by omega, by rw [hn, H2.out], rfl, by go_num, rfl⟩
          case measure => omega
    · have hjs : ¬ j < L.length := by omega
      have e : crcSum (bytesOf L) = ~~~ x := by
        unfold crcSum
        rw [← hx, List.take_of_length_le (by omega)]
      have H := Lib.hid e
      have hnn := Lib.hid (crc_not x)
      clear hj hx e
      go_wp2
      go_ret
      exact ⟨by rw [H.out]; exact congrArg (fun z => Ending.returned (Value.int IntKind.u32 z)) hnn.out, rfl⟩
end Go.Proofs.Ytbdgnggbkdgbmaa
