/-
  The walk of the statement CrcBursts.
-/
import Derived.Test.YtbdgnggbkdgbmaaLaw02
import Derived.Test.YtbdgnggbkdgbmaaCrcB
namespace Go.Proofs.Ytbdgnggbkdgbmaa
set_option linter.unusedVariables false
open Go.RowKit

/-- Bytes that stand in a block of the call's own. -/
def BytesAt (w : World) (g : Nat) (B : List UInt8) : Prop := ∀ j (h : j < B.length), w.cell? ⟨g, j, none⟩ = some (.int .u8 ((B[j]'h).toNat : Int)) ∧ w.frozen? ⟨g, j, none⟩ = false
theorem BytesAt.set_ {w : World} {g : Nat} {B : List UInt8} (h : BytesAt w g B) (i : Nat) (hi : i < B.length) (b : UInt8) : BytesAt (w.setCell ⟨g, i, none⟩ (.int .u8 (b.toNat : Int))) g (B.set i b) := by
  intro j hj
  have hj' : j < B.length := by simpa using hj
  refine ⟨?_, ?_⟩
  · by_cases e : i = j
    · subst e
      rw [World.cell?_setCell_same _ _ _ (h i hi).1]
      simp
    · rw [World.cell?_setCell_other _ _ _ _ (by intro e2; injection e2 with _ e3; exact e e3), (h j hj').1]
      simp [e]
  · rw [World.frozen?_setCell]
    exact (h j hj').2
theorem BytesAt.str {P : Program} {w : World} {g : Nat} {B : List UInt8} (h : BytesAt w g B) (src dst e : TypeId) (hs : P.underlying src = some (.slice e)) (he : P.underlying e = some (.int .u8)) (hd : P.underlying dst = some .string) (n cap : Nat) (hn : n = B.length) :
    (convert src dst (.slice (some ⟨g, 0, none⟩) n cap)).run P w = .ok (.string ⟨B.toArray⟩) w := by
  subst hn
  refine run_convert_bytes_back w src dst e _ cap B hs he hd (fun j hj => ?_)
  rw [addr_add, Nat.zero_add]
  exact (h j hj).1
theorem flip1_set (B : List UInt8) (p : Nat) (hp : p / 8 < B.length) : flip1 B p = B.set (p / 8) ((B[p / 8]'hp) ^^^ UInt8.ofNat (2 ^ (p % 8))) := by
  unfold flip1
  apply List.ext_getElem
  · simp
  · intro i h1 h2
    rw [List.getElem_modify, List.getElem_set]
    by_cases e : p / 8 = i
    · subst e; simp
    · simp [e]

/-- The world behind []byte(s). -/
def byteWorld (w : World) (e : TypeId) (s : ByteArray) : World := w.drew.alloc (.cells (bytesRow s (grownCap w s.size 0 e)) e ((bytesRow s (grownCap w s.size 0 e)).size, (bytesRow s (grownCap w s.size 0 e)).size + 1))
theorem byteWorld_below (w : World) (e : TypeId) (s : ByteArray) : Below w.heap.size w (byteWorld w e s) := ((Below.refl _ _).drew).alloc (Nat.le_refl _) _
theorem byteWorld_bytes (w : World) (e : TypeId) (s : ByteArray) : BytesAt (byteWorld w e s) w.heap.size s.data.toList := by
  intro j hj
  have hj' : j < s.size := hj
  refine ⟨?_, ?_⟩
  · show (w.drew.alloc _).cell? ⟨w.drew.heap.size, j, none⟩ = _
    rw [World.cell?_alloc_mark]
    have hjd : j < s.data.size := hj
    simp [bytesRow, Array.getElem?_append]
    rw [if_pos hj', Array.getElem?_eq_getElem hjd]
    rfl
  · have hh : (byteWorld w e s).heap[w.heap.size]? = some (.cells (bytesRow s (grownCap w s.size 0 e)) e ((bytesRow s (grownCap w s.size 0 e)).size, (bytesRow s (grownCap w s.size 0 e)).size + 1)) := by
      show (w.heap.push _)[w.heap.size]? = _
      simp
    have hsz : s.size ≤ (bytesRow s (grownCap w s.size 0 e)).size := by
      simp [bytesRow]
    simp [World.frozen?, hh]
    omega
/-- What holds when j bits have been looked at. -/
structure BurstI (m f : Nat) (B0 : List UInt8) (j : Nat) (B : List UInt8) (b : Bool) : Prop where
  len : B.length = B0.length
  le : f + j ≤ 8 * B0.length
  res : crcL (BitVec.allOnes 32) B = sealR ^^^ crcBits (8 * B0.length - f) (low m j)
  same : low m j = 0#32 → B = B0
  turned : b = decide (low m j ≠ 0#32)
theorem BurstI.start (m f : Nat) (B0 : List UInt8) (hf : f ≤ 8 * B0.length) (h : crcL (BitVec.allOnes 32) B0 = sealR) : BurstI m f B0 0 B0 false :=
  ⟨rfl, by omega, by rw [low_zero, bits_zero, BitVec.xor_zero, h], fun _ => rfl, by rw [low_zero]; simp⟩
theorem BurstI.no {m f : Nat} {B0 : List UInt8} {j : Nat} {B : List UInt8} {b : Bool} (h : BurstI m f B0 j B b) (hj : j < 32) (hl : f + j < 8 * B0.length) (hm : ¬ m / 2 ^ j % 2 = 1) : BurstI m f B0 (j + 1) B b := by
  have e : low m (j + 1) = low m j := by rw [low_step m j hj, if_neg hm, BitVec.xor_zero]
  exact ⟨h.len, by omega, by rw [e]; exact h.res, by rw [e]; exact h.same, by rw [e]; exact h.turned⟩
theorem BurstI.yes {m f : Nat} {B0 : List UInt8} {j : Nat} {B : List UInt8} {b : Bool} (h : BurstI m f B0 j B b) (hj : j < 32) (hl : f + j < 8 * B0.length) (hm : m / 2 ^ j % 2 = 1) : BurstI m f B0 (j + 1) (flip1 B (f + j)) true := by
  have e : low m (j + 1) = low m j ^^^ (1#32 <<< j) := by rw [low_step m j hj, if_pos hm]
  have hne : low m (j + 1) ≠ 0#32 := by
    intro h0
    have h1 := congrArg (fun x : W32 => x.getLsbD j) h0
    rw [e] at h1
    have h2 : (low m j).getLsbD j = false := by
      unfold low
      rw [BitVec.getLsbD_ofNat, Nat.testBit_mod_two_pow]
      simp
    simp only [BitVec.getLsbD_xor, h2, BitVec.getLsbD_shiftLeft] at h1
    simp [hj] at h1
  refine ⟨by rw [flip1_length]; exact h.len, by omega, ?_, fun h0 => absurd h0 hne, by simp [hne]⟩
  rw [crcL_flip _ _ _ (by rw [h.len]; exact hl), h.res, e, bits_xor', h.len, BitVec.xor_assoc]
  congr 2
  have e8 : 8 * B0.length - f = j + (8 * B0.length - (f + j)) := by omega
  conv => rhs; rw [e8, crcBits_add, up_down j hj]
theorem BurstI.opened {m f : Nat} {B0 : List UInt8} {j : Nat} {B : List UInt8} {b : Bool} (h : BurstI m f B0 j B b) (h4 : 4 ≤ B0.length) : openB B = !b := by
  have hi := open_iff B (by rw [h.len]; exact h4)
  rw [h.res] at hi
  rw [h.turned]
  by_cases h0 : low m j = 0#32
  · rw [h0, bits_zero, BitVec.xor_zero] at hi
    rw [hi.2 rfl]
    simp [h0]
  · have hn : openB B ≠ true := by
      intro ho
      have h1 := hi.1 ho
      have h2 : sealR ^^^ (sealR ^^^ crcBits (8 * B0.length - f) (low m j)) = sealR ^^^ sealR := by rw [h1]
      rw [← BitVec.xor_assoc, BitVec.xor_self, BitVec.zero_xor] at h2
      exact h0 (bits_inj _ _ h2)
    simp [h0, hn]

theorem flip_bits (b : UInt8) (c : Nat) (hc : c < 8) : bits .xor .u8 (b.toNat : Int) ((2 : Int) ^ c % 256) = ((b ^^^ UInt8.ofNat (2 ^ c)).toNat : Int) := by
  have hp : (2 : Nat) ^ c ≤ 2 ^ 7 := Nat.pow_le_pow_right (by omega) (by omega)
  have hb : b.toNat < 256 := b.toNat_lt
  have e1 : (2 : Int) ^ c % 256 = ((2 ^ c : Nat) : Int) := by
    have : (2 : Int) ^ c = ((2 ^ c : Nat) : Int) := by simp
    rw [this]
    exact Int.emod_eq_of_lt (Int.natCast_nonneg _) (by omega)
  have e2 : (UInt8.ofNat (2 ^ c)).toNat = 2 ^ c := by
    have : (UInt8.ofNat (2 ^ c)).toNat = 2 ^ c % 256 := by simp
    rw [this]
    exact Nat.mod_eq_of_lt (by omega)
  rw [e1, u8_xor_nat _ _ hb (by omega), UInt8.toNat_xor, e2]

theorem law_CrcBursts (s : ByteArray) (at_ mask : Int) (w : World) (hs : s.size ≤ maxLen) (h1 : 0 ≤ at_) (h2 : at_ ≤ 4294967295) (h3 : 0 ≤ mask) (h4 : mask ≤ 4294967295) :
    Calls Try.prog 9 #[.string s, .int .u32 at_, .int .u32 mask] w fun e w' => e = .returned (.bool true) ∧ Below w.heap.size w w' := by
  unfold maxLen at hs
  by_cases c : (20000 : Int) < s.size
  · go_enter Try.func9, Try.ntmps9
    go_wp2_with fail
    refine (awake02 _).mono ?_
    rintro e w1 ⟨rfl, hb1⟩
    go_wp2_with fail
    go_ret
    exact ⟨rfl, hb1⟩
  by_cases cm : (mask == 0) = true
  · go_enter Try.func9, Try.ntmps9
    go_wp2_with fail
    refine (awake02 _).mono ?_
    rintro e w1 ⟨rfl, hb1⟩
    go_wp2_with fail
    go_ret
    exact ⟨rfl, hb1⟩
  have cm' : (mask == 0) = false := by simpa using cm
  have hs1 : s.size ≤ 1000000 := by omega
  have hS := sealL_length s.data.toList
  have hl : s.data.toList.length = s.size := rfl
  obtain ⟨q, hq⟩ : ∃ q, (⟨(sealL s.data.toList).toArray⟩ : ByteArray) = q := ⟨_, rfl⟩
  have hqs : q.size = s.size + 4 := by rw [← hq]; show (sealL s.data.toList).toArray.size = _; rw [List.size_toArray, hS, hl]
  have hqd : q.data.toList = sealL s.data.toList := by rw [← hq]
  have hq4 : 4 ≤ q.size := by omega
  have hq2 : q.size ≤ 20004 := by omega
  obtain ⟨m, rfl⟩ := Int.eq_ofNat_of_zero_le h3
  obtain ⟨f, hf⟩ : ∃ f : Nat, at_ % (8 * (q.size : Int)) = (f : Int) := ⟨(at_ % (8 * (q.size : Int))).toNat, (Int.toNat_of_nonneg (Int.emod_nonneg _ (by omega))).symm⟩
  have hf1 : (f : Int) < 8 * q.size := by rw [← hf]; exact Int.emod_lt_of_pos _ (by omega)
  have HQ := Lib.hid hq
  have HQD := Lib.hid hqd
  have HQS := Lib.hid hqs
  clear cm hS hl hq hqd hqs
  go_enter Try.func9, Try.ntmps9
  go_wp2_with fail
  refine (seal_any s _ hs1).mono ?_
  rintro e w1 ⟨rfl, hb1⟩
  rw [HQ.out]
  have hcv := run_bytes_of_string (P := Try.prog) w1 9 41 5 q Try.underlying9 Try.underlying41 Try.underlying5
  go_wp2_with fail
  clear hcv hf
  go_loopg [9, 10] 32 (fun k t i wr => ∃ (j : Nat) (B : List UInt8) (b : Bool), k + j = 32 ∧ BurstI m f q.data.toList j B b ∧ t = .bool b ∧ i = .int .i64 j ∧ BytesAt wr w1.heap.size B ∧ Below w.heap.size w wr)
  case atStart => exact ⟨0, q.data.toList, false, rfl, BurstI.start m f _ (by show f ≤ 8 * q.size; omega) (by rw [HQD.out]; exact seal_res _), rfl, rfl, byteWorld_bytes w1 _ q, below_trans hb1 (byteWorld_below w1 _ q)⟩
  case round =>
    obtain ⟨j, B, b, hj, hI, rfl, rfl, hB, hb⟩ := hrel
    have hlen : B.length = q.size := hI.len
    by_cases hlt : 0 < gk ∧ f + j < 8 * q.size
    · obtain ⟨hlt1, hlt2⟩ := hlt
      have hj32 : (j : Int) < 32 := by omega
      have hjn : (j : Int) < 8 * q.size - f := by omega
      by_cases hm : m / 2 ^ j % 2 = 1
      · have hi : (f + j) / 8 < B.length := by omega
        have hI2 := hI.yes (by omega) hlt2 hm
        obtain ⟨hc1, hc2⟩ := hB _ hi
        have hB2 := hB.set_ _ hi ((B[(f + j) / 8]'hi) ^^^ UInt8.ofNat (2 ^ ((f + j) % 8)))
        rw [← flip1_set B (f + j) hi] at hB2
        have hmz : (0 : Int) ≤ (m : Int) / 2 ^ j := Int.ediv_nonneg (by omega) (Int.le_of_lt (Int.pow_pos (by omega)))
        have hmb : ((m : Int) / 2 ^ j % 2 == 1) = true := by
          have e : (m : Int) / 2 ^ j = ((m / 2 ^ j : Nat) : Int) := by simp
          rw [e]; simp; omega
        generalize hBB : B[(f + j) / 8]'hi = bb at hc1 hB2
        have H := Lib.hid (And.intro hj (And.intro hI2 hB2))
        clear hj hI hI2 hB2 hB hm hBB hlen
        have hx := flip_bits bb ((f + j) % 8) (Nat.mod_lt _ (by omega))
        go_wp2
        go_roundg (gk - 1)
        case rel =>
          obtain ⟨hj, hI2, hB2⟩ := H.out
          exact ⟨j + 1, _, true, by omega, hI2, rfl, by go_num, hB2, hb.setCell hb1.size _⟩
        case measure => omega
      · have hmz : (0 : Int) ≤ (m : Int) / 2 ^ j := Int.ediv_nonneg (by omega) (Int.le_of_lt (Int.pow_pos (by omega)))
        have hI2 := hI.no (by omega) hlt2 hm
        have hmb : ((m : Int) / 2 ^ j % 2 == 1) = false := by
          have e : (m : Int) / 2 ^ j = ((m / 2 ^ j : Nat) : Int) := by simp
          rw [e]; simp; omega
        have H := Lib.hid (And.intro hj (And.intro hI2 hB))
        clear hj hI hI2 hB hm hlen
        go_wp2
        go_roundg (gk - 1)
        case rel =>
          obtain ⟨hj, hI2, hB2⟩ := H.out
          exact ⟨j + 1, _, b, by omega, hI2, rfl, by go_num, hB2, hb⟩
        case measure => omega
    · have hopen := hI.opened hq4
      have hout : ¬ ((j : Int) < 32 ∧ (j : Int) < 8 * q.size - f) := by omega
      have hcv2 := hB.str (P := Try.prog) 41 9 5 Try.underlying41 Try.underlying5 Try.underlying9 q.size (grownCap w1 q.size 0 5) hlen.symm
      have hsame := hI.same
      have hturn := hI.turned
      have hBsz : (⟨B.toArray⟩ : ByteArray).size ≤ 1000000 := by show B.toArray.size ≤ _; rw [List.size_toArray, hlen]; omega
      by_cases h0 : low m j = 0#32
      · have hBq : (⟨B.toArray⟩ : ByteArray) = q := by
          rw [hsame h0]
        rw [hBq] at hcv2
        have hb0 : b = false := by rw [hturn]; simp [h0]
        subst hb0
        have HO := Lib.hid (show openB q.data.toList = true by rw [← hsame h0]; exact hopen)
        have HX := Lib.hid (show q.extract 0 (q.size - 4) = s by
          apply ByteArray.ext
          apply Array.toList_inj.1
          rw [extract_list, HQD.out, HQS.out]
          have e4 : s.size + 4 - 4 - 0 = s.data.toList.length := by
            have : s.data.toList.length = s.size := rfl
            omega
          rw [e4, List.drop_zero, sealL, List.take_left])
        have hqz : q.size ≤ 1000000 := by omega
        clear hlen hI hopen hsame hturn h0 hBq hBsz hj hB hlt
        go_wp2_with fail
        all_goals
          refine (open_any q _ hqz).mono ?_
          rintro e w3 ⟨rfl, hb3⟩
          rw [HO.out, if_pos rfl, HX.out]
          go_wp2_with fail
          refine (awake02 _).mono ?_
          rintro e w4 ⟨rfl, hb4⟩
          go_wp2_with fail
          go_ret
          exact ⟨rfl, below_trans hb (below_trans hb3 hb4)⟩
      · have hb0 : b = true := by rw [hturn]; simp [h0]
        subst hb0
        have HO := Lib.hid (show openB (⟨B.toArray⟩ : ByteArray).data.toList = false by exact hopen)
        generalize (⟨B.toArray⟩ : ByteArray) = p at HO hBsz hcv2
        clear hlen hI hopen hsame hturn h0 hj hB hlt
        go_wp2_with fail
        all_goals
          refine (open_any p _ hBsz).mono ?_
          rintro e w3 ⟨rfl, hb3⟩
          rw [HO.out, if_neg (by simp)]
          go_wp2_with fail
          refine (awake02 _).mono ?_
          rintro e w4 ⟨rfl, hb4⟩
          go_wp2_with fail
          go_ret
          exact ⟨rfl, below_trans hb (below_trans hb3 hb4)⟩
end Go.Proofs.Ytbdgnggbkdgbmaa
