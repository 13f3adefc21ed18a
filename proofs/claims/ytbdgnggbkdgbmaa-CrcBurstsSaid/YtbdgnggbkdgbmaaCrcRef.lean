/-
  The walk of the reference's sum.
-/
import Derived.Test.YtbdgnggbkdgbmaaCrc3
import Derived.Test.YtbdgnggbkdgbmaaCrcR
namespace Go.Proofs.Ytbdgnggbkdgbmaa
set_option linter.unusedVariables false
open Go.RowKit

set_option maxRecDepth 100000 in
theorem rsum_any (s : ByteArray) (w : World) (hs : s.size ≤ 9223372036854775807) :
    Calls Try.prog 17 #[.string s] w fun e w' => e = .returned (.int .u32 ((crcSum s.data.toList).toNat : Int)) ∧ Below w.heap.size w w' := by
  have hz0 : (#[.bool false, .bool false, .bool false, .bool false, .bool false, .bool false, .bool false, .bool false, .bool false, .bool false, .bool false, .bool false, .bool false, .bool false, .bool false, .bool false, .bool false, .bool false, .bool false, .bool false, .bool false, .bool false, .bool false, .bool false, .bool false, .bool false, .bool false, .bool false, .bool false, .bool false, .bool false, .bool false] : Array Value) = rowF (upTo 0) := by rfl
  go_enter Try.func17, Try.ntmps17
  go_wp2
  clear hz0
  go_loopg [4] 32 (fun k i wr => ∃ j : Nat, k + j = 32 ∧ i = .int .i64 j ∧ wr = w.alloc (.cells (rowF (upTo j)) 51))
  case atStart => exact ⟨0, rfl, rfl, rfl⟩
  case round =>
    obtain ⟨j, hj, rfl, rfl⟩ := hrel
    obtain ⟨g1, rfl⟩ : ∃ g, g = gk := ⟨_, rfl⟩
    by_cases hlt : 0 < g1
    · have hj32 : (j : Int) < 32 := by omega
      have hg := rowF_get (upTo j) j (by omega)
      have hst := upTo_step j
      have H := Lib.hid hj
      clear hj
      go_wp2
      go_roundg (g1 - 1)
      case rel => exact ⟨j + 1, by have := H.out; omega, by go_num, rfl⟩
      case measure => omega
    · obtain rfl : j = 32 := by omega
      clear hj
      rw [upTo_full]
      go_wp2
      go_loopg [5] s.size (fun k i wr => ∃ m : Nat, ∃ x : W32, k + m = s.size ∧ crcL (BitVec.allOnes 32) (s.data.toList.take m) = x ∧ i = .int .i64 m ∧ wr = w.alloc (.cells (rowW x) 51))
      case atStart => exact ⟨0, _, rfl, rfl, rfl, rfl⟩
      case round =>
        obtain ⟨m, x, hm, hx, rfl, rfl⟩ := hrel
        obtain ⟨g2, rfl⟩ : ∃ g, g = gk := ⟨_, rfl⟩
        by_cases hlt2 : 0 < g2
        · have hms : m < s.size := by omega
          have hn2 : crcL (BitVec.allOnes 32) (s.data.toList.take (m + 1)) = crcBits 8 (x ^^^ byteW (s[m]'hms)) := by rw [crcL_snoc _ s m hms, hx]
          have hb0 : (s[m]'hms).toNat < 256 := (s[m]'hms).toNat_lt
          unfold byteW at hn2
          have H2 := Lib.hid (And.intro hm hn2)
          clear hm hx hn2
          go_wp2
          generalize (s[m]'hms).toNat = b0 at hb0 H2
          go_loopg [6, 7] 8 (fun k b i wr => ∃ c bb : Nat, ∃ y : W32, k + c = 8 ∧ bb < 256 ∧ (c = 8 → bb = 0) ∧ crcBits c (x ^^^ BitVec.ofNat 32 b0) = y ^^^ BitVec.ofNat 32 bb ∧ b0 / 2 ^ c = bb ∧ b = .int .u8 bb ∧ i = .int .i64 c ∧ wr = w.alloc (.cells (rowW y) 51))
          case atStart => exact ⟨0, b0, x, rfl, hb0, by omega, rfl, by simp, rfl, rfl, rfl⟩
          case round =>
            obtain ⟨c, bb, y, hc, hbb, hb8, hcr, hbd, rfl, rfl, rfl⟩ := hrel
            obtain ⟨g3, rfl⟩ : ∃ g, g = gk := ⟨_, rfl⟩
            by_cases hlt3 : 0 < g3
            · have hc8 : (c : Int) < 8 := by omega
              have hbb' : (bb : Int) < 256 := by omega
              have hg0 : (rowF (shiftTo y 0))[0]? = some (.bool (y.getLsbD 0)) := rowF_get _ 0 (by omega)
              have hstep := ref_step y bb hbb
              have hnext : crcBits (c + 1) (x ^^^ BitVec.ofNat 32 b0) = ((y >>> 1) ^^^ (if (y.getLsbD 0 != (bb % 2 == 1)) = true then poly else 0#32)) ^^^ BitVec.ofNat 32 (bb / 2) := by rw [crcBits_succ, hcr, hstep]
              have hbd2 : b0 / 2 ^ (c + 1) = bb / 2 := by rw [← hbd, Nat.div_div_eq_div_mul, Nat.pow_succ]
              have hb82 : c + 1 = 8 → bb / 2 = 0 := by
                intro h
                rw [← hbd2, h]
                omega
              generalize y.getLsbD 0 = e0 at hnext hg0
              have ho : (!(e0 == ((bb : Int) % 2 == 1))) = (e0 != (bb % 2 == 1)) := by
                have : ((bb : Int) % 2 == 1) = (bb % 2 == 1) := by
                  rw [Bool.eq_iff_iff]; simp; omega
                rw [this]
                rfl
              generalize (e0 != (bb % 2 == 1)) = o at hnext ho
              have H3 := Lib.hid (And.intro hc (And.intro hb82 (And.intro hnext hbd2)))
              clear hc hb8 hcr hbd hstep hnext hbd2 hb82
              rw [shiftTo_zero y]
              go_wp2
              go_loopg [9] 31 (fun k i wr => ∃ j : Nat, k + j = 31 ∧ i = .int .i64 j ∧ wr = w.alloc (.cells (rowF (shiftTo y j)) 51))
              case atStart => exact ⟨0, rfl, rfl, rfl⟩
              case round =>
                obtain ⟨j, hj, rfl, rfl⟩ := hrel
                obtain ⟨g4, rfl⟩ : ∃ g, g = gk := ⟨_, rfl⟩
                by_cases hlt4 : 0 < g4
                · have hj31 : (j : Int) < 31 := by omega
                  have hg1 := shiftTo_get y j (by omega)
                  have hg2 := rowF_get (shiftTo y j) j (by omega)
                  have hst := shiftTo_step y j
                  have H4 := Lib.hid hj
                  clear hj hg0 ho
                  go_wp2
                  go_roundg (g4 - 1)
                  case rel => exact ⟨j + 1, by have := H4.out; omega, by go_num, rfl⟩
                  case measure => omega
                · obtain rfl : j = 31 := by omega
                  have hg2 := rowF_get (shiftTo y 31) 31 (by omega)
                  have hst := shiftTo_end y
                  clear hj hg0 ho
                  cases o with
                  | false =>
                    go_wp2
                    refine wp_loop_rounds 1 ?_
                    rw [rounds_succ]
                    go_wp2
                    go_roundg (g3 - 1)
                    case rel =>
                      obtain ⟨hc, hb82, hnext, hbd2⟩ := H3.out
                      exact ⟨c + 1, bb / 2, y >>> 1, by omega, by omega, hb82, by rw [hnext]; simp, hbd2, by go_num, by go_num, rfl⟩
                    case measure => omega
                  | true =>
                    go_wp2
                    rw [xorTo_zero]
                    go_loopg [10, 11] 32 (fun k p i wr => ∃ j q : Nat, k + j = 32 ∧ 3988292384 / 2 ^ j = q ∧ p = .int .u32 q ∧ i = .int .i64 j ∧ wr = w.alloc (.cells (rowF (xorTo (y >>> 1) j)) 51))
                    case atStart => exact ⟨0, 3988292384, rfl, rfl, rfl, rfl, rfl⟩
                    case round =>
                      obtain ⟨j, q, hj, hq, rfl, rfl, rfl⟩ := hrel
                      obtain ⟨g5, rfl⟩ : ∃ g, g = gk := ⟨_, rfl⟩
                      clear hst hg2
                      by_cases hlt5 : 0 < g5
                      · have hj32 : (j : Int) < 32 := by omega
                        have hq2 : 3988292384 / 2 ^ (j + 1) = q / 2 := by rw [← hq, Nat.div_div_eq_div_mul, Nat.pow_succ]
                        have hqb : q ≤ 3988292384 := by rw [← hq]; exact Nat.div_le_self _ _
                        have hg3 := xorTo_get (y >>> 1) j (by omega)
                        by_cases hp : q % 2 = 1
                        · have hst := xorTo_yes (y >>> 1) j (by omega) (by rw [hq]; exact hp)
                          have hpb : ((q : Int) % 2 == 1) = true := by simp; omega
                          generalize (y >>> 1).getLsbD j = e1 at hg3 hst
                          have H5 := Lib.hid (And.intro hj hq2)
                          clear hj hq hq2 hp
                          go_wp2
                          go_roundg (g5 - 1)
                          case rel =>
                            obtain ⟨hj, hq2⟩ := H5.out
                            exact ⟨j + 1, q / 2, by omega, hq2, by go_num, by go_num, rfl⟩
                          case measure => omega
                        · have hst := Lib.hid (xorTo_no (y >>> 1) j (by omega) (by rw [hq]; exact hp))
                          have hpb : ((q : Int) % 2 == 1) = false := by simp; omega
                          have H5 := Lib.hid (And.intro hj hq2)
                          clear hj hq hq2 hp hg3
                          go_wp2
                          go_roundg (g5 - 1)
                          case rel =>
                            obtain ⟨hj, hq2⟩ := H5.out
                            exact ⟨j + 1, q / 2, by omega, hq2, by go_num, by go_num, by rw [hst.out]⟩
                          case measure => omega
                      · obtain rfl : j = 32 := by omega
                        rw [xorTo_full]
                        clear hj hq
                        go_wp2
                        go_roundg (g3 - 1)
                        case rel =>
                          obtain ⟨hc, hb82, hnext, hbd2⟩ := H3.out
                          exact ⟨c + 1, bb / 2, (y >>> 1) ^^^ poly, by omega, by omega, hb82, by rw [hnext]; simp, hbd2, by go_num, by go_num, rfl⟩
                        case measure => omega
            · obtain rfl : c = 8 := by omega
              obtain rfl : bb = 0 := hb8 rfl
              have hy : crcBits 8 (x ^^^ BitVec.ofNat 32 b0) = y := by rw [hcr]; simp
              have H3 := Lib.hid hy
              clear hc hb8 hcr hbd hy hbb
              go_wp2
              go_roundg (g2 - 1)
              case rel =>
                obtain ⟨hm, hn2⟩ := H2.out
                exact ⟨m + 1, y, by omega, by rw [hn2, H3.out], by go_num, rfl⟩
              case measure => omega
        · have hms : ¬ m < s.size := by omega
          have hx2 : crcL (BitVec.allOnes 32) s.data.toList = x := by
            rw [← hx, List.take_of_length_le]
            have : s.data.toList.length = s.size := rfl
            omega
          have H2 := Lib.hid hx2
          clear hm hx hx2
          go_wp2
          go_loopg [12, 13] 32 (fun k n i wr => ∃ q : Nat, k ≤ 32 ∧ topN x k = q ∧ n = .int .u32 q ∧ i = .int .i64 ((k : Int) - 1) ∧ wr = w.alloc (.cells (rowW x) 51))
          case atStart => exact ⟨0, by omega, topN_all x, rfl, rfl, rfl⟩
          case round =>
            obtain ⟨q, hk, hq, rfl, rfl, rfl⟩ := hrel
            by_cases hlt6 : 0 < gk
            · obtain ⟨j, rfl⟩ : ∃ j, gk = j + 1 := ⟨gk - 1, by omega⟩
              have hg := rowW_get x j (by omega)
              have hst := topN_step x j (by omega)
              have hle := topN_le x j
              rw [hq] at hst
              have hj0 : (0 : Int) ≤ j := by omega
              have hj32 : (j : Int) < 32 := by omega
              generalize x.getLsbD j = e1 at hg hst
              cases e1 with
              | true =>
                have hst' : topN x j = 2 * q := by simpa using hst
                rw [hst'] at hle
                have hle' : 2 * (q : Int) ≤ 4294967295 := by omega
                have H6 := Lib.hid hst'
                clear hst hst' hq hle
                go_wp2
                go_roundg j
                case rel => exact ⟨2 * q, by omega, H6.out, by go_num, by go_num, rfl⟩
                case measure => omega
              | false =>
                have hst' : topN x j = 2 * q + 1 := by simpa using hst
                rw [hst'] at hle
                have hle' : 2 * (q : Int) + 1 ≤ 4294967295 := by omega
                have H6 := Lib.hid hst'
                clear hst hst' hq hle
                go_wp2
                go_roundg j
                case rel => exact ⟨2 * q + 1, by omega, H6.out, by go_num, by go_num, rfl⟩
                case measure => omega
            · obtain rfl : gk = 0 := by omega
              have e : (crcSum s.data.toList).toNat = q := by
                unfold crcSum
                rw [H2.out, ← hq, topN_zero]
              have H6 := Lib.hid e
              clear hq e
              go_wp2
              go_ret
              exact ⟨by rw [H6.out]; rfl, below_alloc1 _ _⟩
end Go.Proofs.Ytbdgnggbkdgbmaa
