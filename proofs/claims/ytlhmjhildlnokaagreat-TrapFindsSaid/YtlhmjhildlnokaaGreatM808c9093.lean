/-
  The walks of the document's layer 3: halves.
-/
import Derived.Test.YtlhmjhildlnokaaGreatMd6b25c4b
import Derived.Test.YtlhmjhildlnokaaGreatM0d4adf42
import Derived.Test.YtlhmjhildlnokaaGreatM6c9709ae
import Derived.Laws.MakeOwn
namespace Go.Proofs.YtlhmjhildlnokaaGreat
set_option linter.unusedVariables false
set_option linter.unusedSimpArgs false
open Go.RowKit
def w4 (T : Nat) : List Nat := (List.range 4).map fun q => T / wB ^ q % wB
theorem w4_length (T : Nat) : (w4 T).length = 4 := by simp [w4]
theorem w4_zero : wl (w4 0) = [.int .u64 0, .int .u64 0, .int .u64 0, .int .u64 0] := by simp [w4, wl, List.range_succ]
theorem w4_get (T q : Nat) (hq : q < 4) : (w4 T).getD q 0 = T / wB ^ q % wB := by
 unfold w4
 rw [List.getD_eq_getElem?_getD]
 simp only [List.getElem?_map, List.getElem?_range hq, Option.map_some, Option.getD_some]
theorem pow_wB (q r : Nat) : 65536 ^ (4 * q + r) = wB ^ q * 65536 ^ r := by
 have e : wB = 65536 ^ 4 := by unfold wB; rfl
 rw [e, ← Nat.pow_mul, ← Nat.pow_add]
theorem w4_step (T e q r : Nat) (hq : q < 4) (hr : r < 4) (hT : T < 65536 ^ (4 * q + r)) (he : e < 65536) :
  (w4 T).getD q 0 + e * 65536 ^ r < 18446744073709551616 ∧ (w4 T).set q ((w4 T).getD q 0 + e * 65536 ^ r) = w4 (T + 65536 ^ (4 * q + r) * e) := by
 have hwp : 0 < wB ^ q := Nat.pow_pos (by unfold wB; omega)
 rw [pow_wB] at hT ⊢
 have h1 : T / wB ^ q < 65536 ^ r := by rw [Nat.div_lt_iff_lt_mul hwp, Nat.mul_comm]; exact hT
 have h2 : 65536 ^ r * 65536 ≤ wB := by
  have : 65536 ^ (r + 1) ≤ 65536 ^ 4 := Nat.pow_le_pow_right (by omega) (by omega)
  rw [Nat.pow_succ] at this
  have e : wB = 65536 ^ 4 := by unfold wB; rfl
  rw [e]; exact this
 have h3 : 65536 ^ r ≤ wB := Nat.le_trans (Nat.le_mul_of_pos_right _ (by omega)) h2
 have h4 : T / wB ^ q % wB = T / wB ^ q := Nat.mod_eq_of_lt (by omega)
 have h5 : T / wB ^ q + e * 65536 ^ r < wB := by
  have : (e + 1) * 65536 ^ r ≤ 65536 * 65536 ^ r := Nat.mul_le_mul_right _ (by omega)
  rw [Nat.add_mul, Nat.one_mul, Nat.mul_comm 65536] at this
  omega
 refine ⟨by rw [w4_get T q hq, h4]; exact h5, ?_⟩
 apply List.ext_getElem?
 intro j
 by_cases hj : j < 4
 ·have e1 : T + wB ^ q * 65536 ^ r * e = T + wB ^ q * (e * 65536 ^ r) := by rw [Nat.mul_assoc, Nat.mul_comm (65536 ^ r) e]
  rw [e1]
  by_cases hjq : q = j
  ·subst hjq
   rw [List.getElem?_set_self (by rw [w4_length]; exact hj), w4_get T q hq, h4]
   unfold w4
   simp only [List.getElem?_map, List.getElem?_range hj, Option.map_some]
   rw [Nat.add_mul_div_left _ _ hwp, Nat.mod_eq_of_lt h5]
  ·rw [List.getElem?_set_ne hjq]
   unfold w4
   simp only [List.getElem?_map, List.getElem?_range hj, Option.map_some]
   congr 1
   rcases Nat.lt_or_ge j q with h | h
   ·obtain ⟨k, rfl⟩ : ∃ k, q = j + (k + 1) := ⟨q - j - 1, by omega⟩
    have e2 : wB ^ (j + (k + 1)) * (e * 65536 ^ r) = wB ^ j * (wB * (wB ^ k * (e * 65536 ^ r))) := by rw [Nat.pow_add, Nat.pow_succ]; simp only [Nat.mul_assoc, Nat.mul_comm, Nat.mul_left_comm]
    rw [e2, Nat.add_mul_div_left _ _ (Nat.pow_pos (by unfold wB; omega)), Nat.add_mul_mod_self_left]
   ·obtain ⟨k, rfl⟩ : ∃ k, j = q + (k + 1) := ⟨j - q - 1, by omega⟩
    have z : ∀ X, X / wB ^ q < wB → X / wB ^ (q + (k + 1)) = 0 := fun X hX => by
     rw [Nat.pow_add, ← Nat.div_div_eq_div_mul, Nat.pow_succ, Nat.mul_comm (wB ^ k), ← Nat.div_div_eq_div_mul, Nat.div_eq_of_lt hX, Nat.zero_div]
    rw [z T (by omega), z (T + wB ^ q * (e * 65536 ^ r)) (by rw [Nat.add_mul_div_left _ _ hwp]; exact h5)]
 ·rw [List.getElem?_eq_none (by rw [List.length_set, w4_length]; omega), List.getElem?_eq_none (by rw [w4_length]; omega)]
theorem iV_w4 (z : Int) (T : Nat) (h : (T : Int) = z % 115792089237316195423570985008687907853269984665640564039457584007913129639936) : .agg (wl (w4 T)).toArray = iV z := by
 have e1 : wl (w4 T) = [.int .u64 ((T : Int) % 18446744073709551616), .int .u64 ((T : Int) / 18446744073709551616 % 18446744073709551616), .int .u64 ((T : Int) / 340282366920938463463374607431768211456 % 18446744073709551616), .int .u64 ((T : Int) / 6277101735386680763835789423207666416102355444464034512896 % 18446744073709551616)] := by
  unfold w4 wl wB
  simp [List.range_succ]
 rw [e1]
 unfold iV
 rw [h]
 have h0 : z % 115792089237316195423570985008687907853269984665640564039457584007913129639936 % 18446744073709551616 = z % 18446744073709551616 := by omega
 have h1 : z % 115792089237316195423570985008687907853269984665640564039457584007913129639936 / 18446744073709551616 % 18446744073709551616 = z / 18446744073709551616 % 18446744073709551616 := by omega
 have h2 : z % 115792089237316195423570985008687907853269984665640564039457584007913129639936 / 340282366920938463463374607431768211456 % 18446744073709551616 = z / 340282366920938463463374607431768211456 % 18446744073709551616 := by omega
 have h3 : z % 115792089237316195423570985008687907853269984665640564039457584007913129639936 / 6277101735386680763835789423207666416102355444464034512896 % 18446744073709551616 = z / 6277101735386680763835789423207666416102355444464034512896 % 18446744073709551616 := by omega
 rw [h0, h1, h2, h3]
theorem fits_short {l : List Nat} {z : Int} (g : CnI l z) (h : l.length < 16 ∨ (l.length = 16 ∧ l.getD 15 0 < 32768)) : R256 z := by
 have e16 : (65536 : Nat) ^ 15 * 32768 = 57896044618658097711785492504343953926634992332820282019728792003956564819968 := by decide
 have : val l < 65536 ^ 15 * 32768 := by
  rcases h with h | ⟨h1, h2⟩
  ·have h1 := val_lt g.1
   have h2 : 65536 ^ l.length ≤ 65536 ^ 15 := Nat.pow_le_pow_right (by omega) (by omega)
   have h3 : 65536 ^ 15 ≤ 65536 ^ 15 * 32768 := Nat.le_mul_of_pos_right _ (by omega)
   omega
  ·have h3 := val_split l 15
   rw [List.drop_of_length_le (by omega)] at h3
   have h4 : val (l.take 15) < 65536 ^ 15 := by
    have := val_lt (g.1.take 15)
    rwa [List.length_take, Nat.min_eq_left (by omega)] at this
   have h5 : 65536 ^ 15 * (l.getD 15 0 + 65536 * val []) ≤ 65536 ^ 15 * 32767 := Nat.mul_le_mul_left _ (by simp only [val]; omega)
   have h6 : (65536 : Nat) ^ 15 * 32768 = 65536 ^ 15 * 32767 + 65536 ^ 15 := by rw [← Nat.mul_succ]
   omega
 rw [e16, g.2.2] at this
 unfold R256
 omega
theorem fits_long {l : List Nat} {z : Int} (g : CnI l z) (h : 16 < l.length) : ¬ R256 z := by
 have h1 := val_pos (l := l) (by intro h0; subst h0; simp at h) (g.2.1 _)
 have h2 : (65536 : Nat) ^ 16 ≤ 65536 ^ (l.length - 1) := Nat.pow_le_pow_right (by omega) (by omega)
 have e16 : (65536 : Nat) ^ 16 = 115792089237316195423570985008687907853269984665640564039457584007913129639936 := by decide
 rw [e16] at h2
 rw [g.2.2] at h1
 unfold R256
 omega
theorem fits_top {l : List Nat} {z : Int} (g : CnI l z) (h : l.length = 16) (ht : 32768 ≤ l.getD 15 0) : decide (R256 z) = (decide (z < 0) && decide (l.getD 15 0 = 32768) && decide (val (l.take 15) = 0)) := by
 have e16 : (65536 : Nat) ^ 15 = 1766847064778384329583297500742918515827483896875618958121606201292619776 := by decide
 have h3 := val_split l 15
 rw [List.drop_of_length_le (by omega), g.2.2, e16] at h3
 simp only [val, Nat.mul_zero, Nat.add_zero] at h3
 have h4 : val (l.take 15) < 65536 ^ 15 := by
  have := val_lt (g.1.take 15)
  rwa [List.length_take, Nat.min_eq_left (by omega)] at this
 rw [e16] at h4
 rw [Bool.eq_iff_iff]
 simp only [Bool.and_eq_true, decide_eq_true_eq]
 unfold R256
 generalize l.getD 15 0 = t at *
 generalize val (l.take 15) = v at *
 constructor
 ·intro hz; omega
 ·intro hz; omega
def LeastRel (w : World) (A : Option Addr) (b1 o1 c1 d1 d2 d4 : Nat) (s t : Bool) (l : List Nat) (k : Nat) (i lst : Value) (wr : World) : Prop :=
 ∃ j : Nat, j + k = 15 ∧ i = .int .i64 (j : Int) ∧ lst = .bool (t && decide (val (l.take j) = 0)) ∧
  Own w.heap.size w wr [.cells d4 [.int .u64 0, .int .u64 0, .int .u64 0, .int .u64 0], .cells d2 [.int .u64 0, .int .u64 0, .int .u64 0, .int .u64 0], .cells d1 [.bool s, .slice A l.length c1], .rd A b1 o1 (dl l)]
def WordsRel (w : World) (A : Option Addr) (b1 o1 c1 d1 d2 d4 : Nat) (s : Bool) (l : List Nat) (u : Nat) (k : Nat) (cy i : Value) (wr : World) : Prop :=
 ∃ (j c : Nat) (m : List Nat), j + k = 16 ∧ i = .int .i64 (j : Int) ∧ cy = .int .i64 (c : Int) ∧ FromInv s u j m c ∧
  Own w.heap.size w wr [.cells d4 (wl (w4 (val m))), .cells d2 [.int .u64 0, .int .u64 0, .int .u64 0, .int .u64 0], .cells d1 [.bool s, .slice A l.length c1], .rd A b1 o1 (dl l)]
def PowerRel (w : World) (A : Option Addr) (b1 o1 c1 d1 d2 d4 : Nat) (s : Bool) (l m : List Nat) (r : Nat) (k : Nat) (p i : Value) (wr : World) : Prop :=
 ∃ j : Nat, j + k = r ∧ i = .int .i64 (j : Int) ∧ p = .int .u64 ((65536 ^ j : Nat) : Int) ∧
  Own w.heap.size w wr [.cells d4 (wl (w4 (val m))), .cells d2 [.int .u64 0, .int .u64 0, .int .u64 0, .int .u64 0], .cells d1 [.bool s, .slice A l.length c1], .rd A b1 o1 (dl l)]
theorem dec_pow (j y : Nat) : decide (0 + 65536 ^ j * y = 0) = ((y : Int) == 0) := by
 have hp : 65536 ^ j ≠ 0 := Nat.pos_iff_ne_zero.1 (Nat.pow_pos (by omega))
 rw [Bool.eq_iff_iff, decide_eq_true_eq, beq_iff_eq, Nat.zero_add, Nat.mul_eq_zero]
 omega
theorem digit_val (l : List Nat) (g : Dg l) (i : Nat) : l.getD i 0 = val l / 65536 ^ i % 65536 := by rw [← val_vB]; exact vB_digit 65536 (by omega) l i g
theorem wordsInv_done {z : Int} {c : Nat} {m : List Nat} (hz : R256 z) (h : FromInv (decide (z < 0)) z.natAbs 16 m c) : ((val m : Nat) : Int) = z % 115792089237316195423570985008687907853269984665640564039457584007913129639936 := by
 obtain ⟨h1, h2, h3, h4⟩ := h
 have e : (65536 : Nat) ^ 16 = 115792089237316195423570985008687907853269984665640564039457584007913129639936 := by decide
 have hl := val_lt h1
 rw [h2, e] at hl
 rw [e] at h4
 unfold R256 at hz
 by_cases hn : z < 0
 ·simp only [hn, decide_true, if_true] at h4
  rw [Nat.mod_eq_of_lt (by omega)] at h4
  have : c = 0 := by
   rcases Nat.lt_or_ge 0 c with h | h
   ·have : c = 1 := by omega
    subst this; omega
   ·omega
  subst this
  omega
 ·simp only [hn, decide_false, Bool.false_eq_true, if_false] at h4
  rw [Nat.mod_eq_of_lt (by omega)] at h4
  omega
set_option maxRecDepth 100000 in
set_option maxHeartbeats 16000000 in
theorem refWords_any (F : Nat → Prop) (w : World) (hF : ∀ k, F k → k < w.heap.size) (A : Option Addr) (c1 : Nat) (l : List Nat) (z : Int) (ha : Sl F w A (dl l)) (ga : CnI l z) (la : l.length ≤ 1000) (ma : l.length ≤ c1) (ma2 : c1 ≤ maxLen) :
  Calls Tryz.prog 81 #[.agg #[.bool (decide (z < 0)), .slice A l.length c1]] w fun e w' => e = .returned (.tuple #[iV (fitZ z), .bool (decide (R256 z))]) ∧ Below w.heap.size w w' := by
 obtain ⟨b1, o1, H, f1⟩ := (Own.start w).addSl (ha.ro (by rfl))
 clear ha
 by_cases h17 : 16 < l.length
 ·have hf := fits_long ga h17
  have e1 : fitZ z = 0 := by unfold fitZ; rw [if_neg hf]
  have e2 : decide (R256 z) = false := by simpa using hf
  rw [e1, e2, iV_zero]
  clear e1 e2 hf
  go_enter Tryz.func81, Tryz.ntmps81
  have tk0 : True := trivial
  have tk1 : True := trivial
  have tk2 : True := trivial
  go_wp2_with (guard_target = wpList _ _ _ (_ :: _) _ _; (first | (refine a15dc6b3 ?_) | (refine a181aa22 ?_; clear H; (try clear w2); intro w2 H) | (refine a9475ade ?_; intro b2; clear H; (try clear w2); intro w2 H; (first | (clear tk0; rename Nat => d1) | (clear tk1; rename Nat => d2) | (clear tk2; rename Nat => d4)))))
  have r4 := H.loadVarN (P := Tryz.prog) (ty := 104) m1 (by simp) (by simp)
  exact bodyPost_ret (v := .tuple #[.agg #[.int .u64 0, .int .u64 0, .int .u64 0, .int .u64 0], .bool false]) (by simp [results, Tryz.results81, asAddr, r4]) rfl ⟨rfl, H.below⟩
 ·by_cases h16 : l.length = 16 ∧ 32768 ≤ l.getD 15 0
  ·obtain ⟨h16, ht⟩ := h16
   have hf := fits_top ga h16 ht
   obtain ⟨d15, hd15⟩ : ∃ t, l.getD 15 0 = t := ⟨_, rfl⟩
   rw [hd15] at hf ht
   have tx : (Res.rd (some ⟨b1, o1, none⟩) b1 o1 (dl l)).at b1 (o1 + 15) [.int .i64 (d15 : Int)] := at_rd (by rw [dl_get (by omega), hd15])
   obtain rfl := H.rdAddr m0 (by rw [dl_length]; omega)
   have hl1 : ((l.length : Int) == 16) = true := by simp; omega
   have h15 : (15 : Int) < (l.length : Int) := by omega
   have hge : decide ((32768 : Int) ≤ (d15 : Int)) = true := by simp; omega
   obtain ⟨t, htt⟩ : ∃ t, decide (d15 = 32768) = t := ⟨_, rfl⟩
   have heq : ((d15 : Int) == 32768) = t := by rw [← htt, Bool.eq_iff_iff]; simp; omega
   rw [htt] at hf
   have gn := ga.nat
   have gl := ga.1
   have hv := ga.2.2
   obtain ⟨s, hs⟩ : ∃ s, decide (z < 0) = s := ⟨_, rfl⟩
   have hdone := fun (hf : R256 z) (c : Nat) (m : List Nat) (h : FromInv (decide (z < 0)) z.natAbs 16 m c) => wordsInv_done hf h
   rw [hs] at hdone hf
   rw [hs]
   obtain ⟨u, hu⟩ : ∃ u, z.natAbs = u := ⟨_, rfl⟩
   rw [hu] at hdone hv gn
   have HD0 := Lib.hid hdone
   have HVV := Lib.hid hv
   have HL := Lib.hid h16
   have HF := Lib.hid hf
   obtain ⟨rr, hrr⟩ : ∃ r, decide (R256 z) = r := ⟨_, rfl⟩
   have HRR := Lib.hid hrr
   rw [hrr]
   clear hdone hv hs hu ga hf h16 ht htt hd15 hrr
   obtain ⟨q0, hq0⟩ : ∃ q0, (s && t) = q0 := ⟨_, rfl⟩
   have HQ0 := Lib.hid hq0
   cases s with
   | true =>
    obtain rfl : t = q0 := by simpa using hq0
    clear hq0
    go_enter Tryz.func81, Tryz.ntmps81
    have tk0 : True := trivial
    have tk1 : True := trivial
    have tk2 : True := trivial
    go_wp2_with (guard_target = wpList _ _ _ (_ :: _) _ _; (first | (refine a15dc6b3 ?_) | (refine a9475ade ?_; intro b2; clear H; (try clear w2); intro w2 H; (first | (clear tk0; rename Nat => d1) | (clear tk1; rename Nat => d2) | (clear tk2; rename Nat => d4)))))
    go_loopg [6, 5] 15 (LeastRel w (some ⟨b1, o1, none⟩) b1 o1 c1 d1 d2 d4 true t l)
    case atStart => exact ⟨0, rfl, rfl, by simp [val], H⟩
    case round =>
     clear H
     obtain ⟨j, hk, rfl, rfl, H⟩ := hrel
     obtain ⟨lq, hlq⟩ : ∃ lq, (t && decide (val (l.take j) = 0)) = lq := ⟨_, rfl⟩
     rw [hlq]
     have HLQ := Lib.hid hlq
     clear hlq
     by_cases h0 : j < 15
     ·have hjl : j < l.length := by omega
      cases lq with
      | true =>
       obtain ⟨y, hy, by_, ty⟩ := dig_at hjl gl
       replace ty := ty (some ⟨b1, o1, none⟩) b1 o1
       obtain ⟨yv, hyv⟩ : ∃ yv, ((y : Int) == 0) = yv := ⟨_, rfl⟩
       go_wp2_with (guard_target = wpList _ _ _ (_ :: _) _ _; (refine a15dc6b3 ?_))
       go_roundg (15 - (j + 1))
       case rel =>
        refine ⟨j + 1, by omega, by congr 1, ?_, H⟩
        have h1 := HLQ.out
        rw [Bool.and_eq_true, decide_eq_true_eq] at h1
        rw [← hyv, val_take_succ, h1.2, hy.out, h1.1, Bool.true_and]
        rw [dec_pow]
       case measure => omega
      | false =>
       go_wp2_with (go_big_skip)
       go_roundg (15 - (j + 1))
       case rel =>
        refine ⟨j + 1, by omega, by congr 1, ?_, H⟩
        have h1 := HLQ.out
        congr 1
        symm
        rw [Bool.and_eq_false_iff] at h1 ⊢
        rcases h1 with h1 | h1
        ·exact .inl h1
        ·right
         rw [decide_eq_false_iff_not] at h1 ⊢
         rw [val_take_succ]; omega
       case measure => omega
     ·obtain rfl : j = 15 := by omega
      have e15 : ((15 : Nat) : Int) = 15 := rfl
      rw [e15]
      clear e15
      have hf : decide (R256 z) = lq := by rw [HF.out, HQ0.out]; exact HLQ.out
      have h5 : rr = lq := HRR.out.symm.trans hf
      have HFF := Lib.hid hf
      subst h5
      clear hf
      cases rr with
      | false =>
       have hfit : fitZ z = 0 := by unfold fitZ; rw [if_neg (by simpa using HFF.out)]
       have HFIT := Lib.hid hfit
       clear hfit
       go_wp2_with (guard_target = wpList _ _ _ (_ :: _) _ _; (first | (refine a15dc6b3 ?_) | (refine a181aa22 ?_; clear H; (try clear w2); intro w2 H)))
       rw [HFIT.out, iV_zero]
       have r4 := H.loadVarN (P := Tryz.prog) (ty := 104) m1 (by simp) (by simp)
       exact bodyPost_ret (v := .tuple #[.agg #[.int .u64 0, .int .u64 0, .int .u64 0, .int .u64 0], .bool false]) (by simp [results, Tryz.results81, asAddr, r4]) rfl ⟨rfl, H.below⟩
      | true =>
       have hf : R256 z := by simpa using HFF.out
       have hfit : fitZ z = z := by unfold fitZ; rw [if_pos hf]
       have HFIT := Lib.hid hfit
       have HDONE := Lib.hid (HD0.out hf)
       clear hfit hf
       go_wp2_with (first | fail)
       go_loopg [7, 8] 16 (WordsRel w (some ⟨b1, o1, none⟩) b1 o1 c1 d1 d2 d4 true l u)
       case atStart =>
        refine ⟨0, 1, [], Nat.zero_add _, rfl, rfl, FromInv.start _ _, ?_⟩
        rw [show val [] = 0 from rfl, w4_zero]
        exact H
       case round =>
        clear H
        obtain ⟨j, c, m, hk, rfl, rfl, hinv, H⟩ := hrel
        by_cases h0 : j < 16
        ·have hq : j / 4 < 4 := by omega
         have hr : j % 4 < 4 := by omega
         have hj := Lib.hid (show 4 * (j / 4) + j % 4 = j by omega)
         have HINV := Lib.hid hinv
         have hc := hinv.2.2.1
         clear hinv
         have hdv := digit_val l gl j
         rw [HVV.out] at hdv
         have HDV := Lib.hid hdv
         clear hdv
         by_cases hjl : j < l.length
         ·obtain ⟨y, hy, by_, ty⟩ := dig_at hjl gl
          replace ty := ty (some ⟨b1, o1, none⟩) b1 o1
          go_wp2_with (guard_target = wpList _ _ _ (_ :: _) _ _; (refine a15dc6b3 ?_))
          obtain ⟨e, he⟩ : ∃ e, e = (65535 - y + c) % 65536 := ⟨_, rfl⟩
          have be : e < 65536 := by rw [he]; omega
          have eI : (65535 - (y : Int) + (c : Int)) % 65536 = ((e : Nat) : Int) := by omega
          rw [eI]
          have HE := Lib.hid he
          clear he eI
          go_loopg [10, 11] (j % 4) (PowerRel w (some ⟨b1, o1, none⟩) b1 o1 c1 d1 d2 d4 true l m (j % 4))
          case atStart => exact ⟨0, by omega, rfl, rfl, H⟩
          case round =>
           clear H
           obtain ⟨p, hp, rfl, rfl, H⟩ := hrel
           have bp : 65536 ^ p ≤ 281474976710656 := by
            have : 65536 ^ p ≤ 65536 ^ 3 := Nat.pow_le_pow_right (by omega) (by omega)
            exact this
           obtain ⟨P, hP⟩ : ∃ P, 65536 ^ p = P := ⟨_, rfl⟩
           rw [hP] at bp ⊢
           have HPP := Lib.hid hP
           clear hP
           by_cases hpr : p < j % 4
           ·have bp2 : P ≤ 4294967296 := by
             have : 65536 ^ p ≤ 65536 ^ 2 := Nat.pow_le_pow_right (by omega) (by omega)
             rw [HPP.out] at this
             exact this
            go_wp2_with (first | fail)
            go_roundg (j % 4 - (p + 1))
            case rel => exact ⟨p + 1, by omega, by congr 1, by rw [Nat.pow_succ, HPP.out]; rfl, H⟩
            case measure => omega
           ·obtain rfl : p = j % 4 := by omega
            obtain ⟨g, hg⟩ : ∃ g, (w4 (val m)).getD (j / 4) 0 = g := ⟨_, rfl⟩
            have st := w4_step (val m) e (j / 4) (j % 4) hq hr (by rw [hj.out]; have := val_lt HINV.out.1; rwa [HINV.out.2.1] at this) be
            rw [hg, HPP.out, hj.out] at st
            obtain ⟨st1, st2⟩ := st
            obtain ⟨M, hM⟩ : ∃ M, e * P = M := ⟨_, rfl⟩
            rw [hM] at st1 st2
            have hM2 : (e : Int) * (P : Int) = (M : Int) := by rw [← hM]; simp
            have ldW : (Res.cells d4 (wl (w4 (val m)))).at d4 (j / 4) [.int .u64 (g : Int)] := at_cells (by rw [wl_get (by rw [w4_length]; omega), hg])
            have wlen : (wl (w4 (val m))).length = 4 := by rw [wl_length, w4_length]
            have ST2 := Lib.hid st2
            clear hg hM st2
            have X0 := @wlen
            have X1 := @zz
            have X2 := @zz
            have X3 := @zz
            go_wp2_with (guard_target = wpList _ _ _ (_ :: _) _ _; (first | (refine a2601604 ?_) | (refine a218e51a ?_; clear H; (try clear w2); intro w2 H)))
            have e4 : (g : Int) + (M : Int) = ((g + M : Nat) : Int) := by omega
            rw [e4, wl_set, ST2.out] at H
            go_roundg (16 - (j + 1))
            case rel =>
             refine ⟨j + 1, (65535 - y + c) / 65536, m ++ [e], by omega, by congr 1, by congr 1; omega, by rw [HE.out]; exact HINV.out.neg (HDV.out.symm.trans hy.out) (by omega), ?_⟩
             rw [val_snoc, HINV.out.2.1]
             exact H
            case measure => omega
         ·exfalso; omega
        ·obtain rfl : j = 16 := by omega
         have hT := HDONE.out c m hinv
         have wlen : (wl (w4 (val m))).length = 4 := by rw [wl_length, w4_length]
         have hset : ∀ v0 v1 v2 v3 : Value, setL [v0, v1, v2, v3] 0 (wl (w4 (val m))) = wl (w4 (val m)) := fun v0 v1 v2 v3 => by
          rw [setL_eq _ _ _ (by rw [wlen]; simp), wlen]; simp
         have hres := iV_w4 z (val m) hT
         have HRES := Lib.hid hres
         have e16 : ((16 : Nat) : Int) = 16 := rfl
         rw [e16]
         clear hT hres e16
         have X0 := @wlen
         have X1 := @hset
         have X2 := @wl_one
         have X3 := @zz
         go_wp2_with (guard_target = wpList _ _ _ (_ :: _) _ _; (first | (refine a2601604 ?_) | (refine a218e51a ?_; clear H; (try clear w2); intro w2 H)))
         have r4 := H.loadVarN (P := Tryz.prog) (ty := 104) m1 (by simp) (by simp [wlen])
         rw [HFIT.out, ← HRES.out]
         exact bodyPost_ret (v := .tuple #[.agg (wl (w4 (val m))).toArray, .bool true]) (by simp [results, Tryz.results81, asAddr, r4]) rfl ⟨rfl, H.below⟩
   | false =>
    obtain rfl : q0 = false := by simpa using hq0.symm
    clear hq0
    go_enter Tryz.func81, Tryz.ntmps81
    have tk0 : True := trivial
    have tk1 : True := trivial
    have tk2 : True := trivial
    go_wp2_with (first
     | go_big_skip
     | (guard_target = wpList _ _ _ (_ :: _) _ _; (first | (refine a15dc6b3 ?_) | (refine a9475ade ?_; intro b2; clear H; (try clear w2); intro w2 H; (first | (clear tk0; rename Nat => d1) | (clear tk1; rename Nat => d2) | (clear tk2; rename Nat => d4))))))
    go_loopg [6, 5] 15 (LeastRel w (some ⟨b1, o1, none⟩) b1 o1 c1 d1 d2 d4 false false l)
    case atStart => exact ⟨0, rfl, rfl, by simp [val], H⟩
    case round =>
     clear H
     obtain ⟨j, hk, rfl, rfl, H⟩ := hrel
     rw [Bool.false_and]
     by_cases h0 : j < 15
     ·have hjl : j < l.length := by omega
      go_wp2_with (go_big_skip)
      go_roundg (15 - (j + 1))
      case rel =>
       exact ⟨j + 1, by omega, by congr 1, rfl, H⟩
      case measure => omega
     ·obtain rfl : j = 15 := by omega
      have e15 : ((15 : Nat) : Int) = 15 := rfl
      rw [e15]
      clear e15
      have hf : decide (R256 z) = false := by rw [HF.out, HQ0.out]; rfl
      have h5 : rr = false := HRR.out.symm.trans hf
      have HFF := Lib.hid hf
      subst h5
      clear hf
      have hfit : fitZ z = 0 := by unfold fitZ; rw [if_neg (by simpa using HFF.out)]
      have HFIT := Lib.hid hfit
      clear hfit
      go_wp2_with (guard_target = wpList _ _ _ (_ :: _) _ _; (first | (refine a15dc6b3 ?_) | (refine a181aa22 ?_; clear H; (try clear w2); intro w2 H)))
      rw [HFIT.out, iV_zero]
      have r4 := H.loadVarN (P := Tryz.prog) (ty := 104) m1 (by simp) (by simp)
      exact bodyPost_ret (v := .tuple #[.agg #[.int .u64 0, .int .u64 0, .int .u64 0, .int .u64 0], .bool false]) (by simp [results, Tryz.results81, asAddr, r4]) rfl ⟨rfl, H.below⟩
  ·have hf := fits_short ga (by omega)
   have e1 : fitZ z = z := by unfold fitZ; rw [if_pos hf]
   have e2 : decide (R256 z) = true := by simpa using hf
   rw [e1, e2]
   have gn := ga.nat
   have gl := ga.1
   have hv := ga.2.2
   obtain ⟨s, hs⟩ : ∃ s, decide (z < 0) = s := ⟨_, rfl⟩
   have hdone := fun (c : Nat) (m : List Nat) (h : FromInv (decide (z < 0)) z.natAbs 16 m c) => wordsInv_done hf h
   rw [hs] at hdone
   rw [hs]
   obtain ⟨u, hu⟩ : ∃ u, z.natAbs = u := ⟨_, rfl⟩
   rw [hu] at hdone hv gn
   have HDONE := Lib.hid hdone
   have HVV := Lib.hid hv
   clear hdone hv
   clear e1 e2 hf hs hu ga
   by_cases hl16 : l.length = 16
   ·obtain ⟨t, ht⟩ : ∃ t, l.getD 15 0 = t := ⟨_, rfl⟩
    have ht2 : t < 32768 := by rw [← ht]; omega
    have tx : (Res.rd (some ⟨b1, o1, none⟩) b1 o1 (dl l)).at b1 (o1 + 15) [.int .i64 (t : Int)] := at_rd (by rw [dl_get (by omega), ht])
    obtain rfl := H.rdAddr m0 (by rw [dl_length]; omega)
    have hl1 : ((l.length : Int) == 16) = true := by simp; omega
    have h15 : (15 : Int) < (l.length : Int) := by omega
    have HL := Lib.hid hl16
    have HLT := Lib.hid ht
    have hge : decide ((32768 : Int) ≤ (t : Int)) = false := by simp; omega
    clear hl16 ht h16 ht2
    go_enter Tryz.func81, Tryz.ntmps81
    have tk0 : True := trivial
    have tk1 : True := trivial
    have tk2 : True := trivial
    go_wp2_with (guard_target = wpList _ _ _ (_ :: _) _ _; (first | (refine a15dc6b3 ?_) | (refine a9475ade ?_; intro b2; clear H; (try clear w2); intro w2 H; (first | (clear tk0; rename Nat => d1) | (clear tk1; rename Nat => d2) | (clear tk2; rename Nat => d4)))))
    go_loopg [7, 8] 16 (WordsRel w (some ⟨b1, o1, none⟩) b1 o1 c1 d1 d2 d4 s l u)
    case atStart =>
     refine ⟨0, 1, [], Nat.zero_add _, rfl, rfl, FromInv.start _ _, ?_⟩
     rw [show val [] = 0 from rfl, w4_zero]
     exact H
    case round =>
     clear H
     obtain ⟨j, c, m, hk, rfl, rfl, hinv, H⟩ := hrel
     by_cases h0 : j < 16
     ·have hq : j / 4 < 4 := by omega
      have hr : j % 4 < 4 := by omega
      have hj := Lib.hid (show 4 * (j / 4) + j % 4 = j by omega)
      have HINV := Lib.hid hinv
      have hc := hinv.2.2.1
      clear hinv
      have hdv := digit_val l gl j
      rw [HVV.out] at hdv
      have HDV := Lib.hid hdv
      clear hdv
      by_cases hjl : j < l.length
      ·obtain ⟨y, hy, by_, ty⟩ := dig_at hjl gl
       replace ty := ty (some ⟨b1, o1, none⟩) b1 o1
       cases s with
       | true =>
        go_wp2_with (guard_target = wpList _ _ _ (_ :: _) _ _; (refine a15dc6b3 ?_))
        obtain ⟨e, he⟩ : ∃ e, e = (65535 - y + c) % 65536 := ⟨_, rfl⟩
        have be : e < 65536 := by rw [he]; omega
        have eI : (65535 - (y : Int) + (c : Int)) % 65536 = ((e : Nat) : Int) := by omega
        rw [eI]
        have HE := Lib.hid he
        clear he eI
        go_loopg [10, 11] (j % 4) (PowerRel w (some ⟨b1, o1, none⟩) b1 o1 c1 d1 d2 d4 true l m (j % 4))
        case atStart => exact ⟨0, by omega, rfl, rfl, H⟩
        case round =>
         clear H
         obtain ⟨p, hp, rfl, rfl, H⟩ := hrel
         have bp : 65536 ^ p ≤ 281474976710656 := by
          have : 65536 ^ p ≤ 65536 ^ 3 := Nat.pow_le_pow_right (by omega) (by omega)
          exact this
         obtain ⟨P, hP⟩ : ∃ P, 65536 ^ p = P := ⟨_, rfl⟩
         rw [hP] at bp ⊢
         have HPP := Lib.hid hP
         clear hP
         by_cases hpr : p < j % 4
         ·have bp2 : P ≤ 4294967296 := by
           have : 65536 ^ p ≤ 65536 ^ 2 := Nat.pow_le_pow_right (by omega) (by omega)
           rw [HPP.out] at this
           exact this
          go_wp2_with (first | fail)
          go_roundg (j % 4 - (p + 1))
          case rel => exact ⟨p + 1, by omega, by congr 1, by rw [Nat.pow_succ, HPP.out]; rfl, H⟩
          case measure => omega
         ·obtain rfl : p = j % 4 := by omega
          obtain ⟨g, hg⟩ : ∃ g, (w4 (val m)).getD (j / 4) 0 = g := ⟨_, rfl⟩
          have st := w4_step (val m) e (j / 4) (j % 4) hq hr (by rw [hj.out]; have := val_lt HINV.out.1; rwa [HINV.out.2.1] at this) be
          rw [hg, HPP.out, hj.out] at st
          obtain ⟨st1, st2⟩ := st
          obtain ⟨M, hM⟩ : ∃ M, e * P = M := ⟨_, rfl⟩
          rw [hM] at st1 st2
          have hM2 : (e : Int) * (P : Int) = (M : Int) := by rw [← hM]; simp
          have ldW : (Res.cells d4 (wl (w4 (val m)))).at d4 (j / 4) [.int .u64 (g : Int)] := at_cells (by rw [wl_get (by rw [w4_length]; omega), hg])
          have wlen : (wl (w4 (val m))).length = 4 := by rw [wl_length, w4_length]
          have ST2 := Lib.hid st2
          clear hg hM st2
          have X0 := @wlen
          have X1 := @zz
          have X2 := @zz
          have X3 := @zz
          go_wp2_with (guard_target = wpList _ _ _ (_ :: _) _ _; (first | (refine a2601604 ?_) | (refine a218e51a ?_; clear H; (try clear w2); intro w2 H)))
          have e4 : (g : Int) + (M : Int) = ((g + M : Nat) : Int) := by omega
          rw [e4, wl_set, ST2.out] at H
          go_roundg (16 - (j + 1))
          case rel =>
           refine ⟨j + 1, (65535 - y + c) / 65536, m ++ [e], by omega, by congr 1, by congr 1; omega, by rw [HE.out]; exact HINV.out.neg (HDV.out.symm.trans hy.out) (by omega), ?_⟩
           rw [val_snoc, HINV.out.2.1]
           exact H
          case measure => omega
       | false =>
        go_wp2_with (guard_target = wpList _ _ _ (_ :: _) _ _; (refine a15dc6b3 ?_))
        obtain ⟨e, he⟩ : ∃ e, e = y := ⟨_, rfl⟩
        have be : e < 65536 := by rw [he]; omega
        have eI : (y : Int) = ((e : Nat) : Int) := by omega
        rw [eI]
        have HE := Lib.hid he
        clear he eI
        go_loopg [10, 11] (j % 4) (PowerRel w (some ⟨b1, o1, none⟩) b1 o1 c1 d1 d2 d4 false l m (j % 4))
        case atStart => exact ⟨0, by omega, rfl, rfl, H⟩
        case round =>
         clear H
         obtain ⟨p, hp, rfl, rfl, H⟩ := hrel
         have bp : 65536 ^ p ≤ 281474976710656 := by
          have : 65536 ^ p ≤ 65536 ^ 3 := Nat.pow_le_pow_right (by omega) (by omega)
          exact this
         obtain ⟨P, hP⟩ : ∃ P, 65536 ^ p = P := ⟨_, rfl⟩
         rw [hP] at bp ⊢
         have HPP := Lib.hid hP
         clear hP
         by_cases hpr : p < j % 4
         ·have bp2 : P ≤ 4294967296 := by
           have : 65536 ^ p ≤ 65536 ^ 2 := Nat.pow_le_pow_right (by omega) (by omega)
           rw [HPP.out] at this
           exact this
          go_wp2_with (first | fail)
          go_roundg (j % 4 - (p + 1))
          case rel => exact ⟨p + 1, by omega, by congr 1, by rw [Nat.pow_succ, HPP.out]; rfl, H⟩
          case measure => omega
         ·obtain rfl : p = j % 4 := by omega
          obtain ⟨g, hg⟩ : ∃ g, (w4 (val m)).getD (j / 4) 0 = g := ⟨_, rfl⟩
          have st := w4_step (val m) e (j / 4) (j % 4) hq hr (by rw [hj.out]; have := val_lt HINV.out.1; rwa [HINV.out.2.1] at this) be
          rw [hg, HPP.out, hj.out] at st
          obtain ⟨st1, st2⟩ := st
          obtain ⟨M, hM⟩ : ∃ M, e * P = M := ⟨_, rfl⟩
          rw [hM] at st1 st2
          have hM2 : (e : Int) * (P : Int) = (M : Int) := by rw [← hM]; simp
          have ldW : (Res.cells d4 (wl (w4 (val m)))).at d4 (j / 4) [.int .u64 (g : Int)] := at_cells (by rw [wl_get (by rw [w4_length]; omega), hg])
          have wlen : (wl (w4 (val m))).length = 4 := by rw [wl_length, w4_length]
          have ST2 := Lib.hid st2
          clear hg hM st2
          have X0 := @wlen
          have X1 := @zz
          have X2 := @zz
          have X3 := @zz
          go_wp2_with (guard_target = wpList _ _ _ (_ :: _) _ _; (first | (refine a2601604 ?_) | (refine a218e51a ?_; clear H; (try clear w2); intro w2 H)))
          have e4 : (g : Int) + (M : Int) = ((g + M : Nat) : Int) := by omega
          rw [e4, wl_set, ST2.out] at H
          go_roundg (16 - (j + 1))
          case rel =>
           refine ⟨j + 1, c, m ++ [e], by omega, by congr 1, rfl, by rw [HE.out]; exact HINV.out.pos (HDV.out.symm.trans hy.out), ?_⟩
           rw [val_snoc, HINV.out.2.1]
           exact H
          case measure => omega
      ·exfalso; omega
     ·obtain rfl : j = 16 := by omega
      have hT := HDONE.out c m hinv
      have wlen : (wl (w4 (val m))).length = 4 := by rw [wl_length, w4_length]
      have hset : ∀ v0 v1 v2 v3 : Value, setL [v0, v1, v2, v3] 0 (wl (w4 (val m))) = wl (w4 (val m)) := fun v0 v1 v2 v3 => by
       rw [setL_eq _ _ _ (by rw [wlen]; simp), wlen]; simp
      have hres := iV_w4 z (val m) hT
      have HRES := Lib.hid hres
      have e16 : ((16 : Nat) : Int) = 16 := rfl
      rw [e16]
      clear hT hres e16
      have X0 := @wlen
      have X1 := @hset
      have X2 := @wl_one
      have X3 := @zz
      go_wp2_with (guard_target = wpList _ _ _ (_ :: _) _ _; (first | (refine a2601604 ?_) | (refine a218e51a ?_; clear H; (try clear w2); intro w2 H)))
      have r4 := H.loadVarN (P := Tryz.prog) (ty := 104) m1 (by simp) (by simp [wlen])
      rw [← HRES.out]
      exact bodyPost_ret (v := .tuple #[.agg (wl (w4 (val m))).toArray, .bool true]) (by simp [results, Tryz.results81, asAddr, r4]) rfl ⟨rfl, H.below⟩
   ·have hl1 : ((l.length : Int) == 16) = false := by simp; omega
    clear hl16 h16
    go_enter Tryz.func81, Tryz.ntmps81
    have tk0 : True := trivial
    have tk1 : True := trivial
    have tk2 : True := trivial
    go_wp2_with (first
     | go_big_skip
     | (guard_target = wpList _ _ _ (_ :: _) _ _; (first | (refine a15dc6b3 ?_) | (refine a9475ade ?_; intro b2; clear H; (try clear w2); intro w2 H; (first | (clear tk0; rename Nat => d1) | (clear tk1; rename Nat => d2) | (clear tk2; rename Nat => d4))))))
    go_loopg [7, 8] 16 (WordsRel w A b1 o1 c1 d1 d2 d4 s l u)
    case atStart =>
     refine ⟨0, 1, [], Nat.zero_add _, rfl, rfl, FromInv.start _ _, ?_⟩
     rw [show val [] = 0 from rfl, w4_zero]
     exact H
    case round =>
     clear H
     obtain ⟨j, c, m, hk, rfl, rfl, hinv, H⟩ := hrel
     by_cases h0 : j < 16
     ·have hq : j / 4 < 4 := by omega
      have hr : j % 4 < 4 := by omega
      have hj := Lib.hid (show 4 * (j / 4) + j % 4 = j by omega)
      have HINV := Lib.hid hinv
      have hc := hinv.2.2.1
      clear hinv
      have hdv := digit_val l gl j
      rw [HVV.out] at hdv
      have HDV := Lib.hid hdv
      clear hdv
      by_cases hjl : j < l.length
      ·obtain ⟨y, hy, by_, ty⟩ := dig_at hjl gl
       obtain rfl := H.rdAddr m3 (by rw [dl_length]; omega)
       replace ty := ty (some ⟨b1, o1, none⟩) b1 o1
       cases s with
       | true =>
        go_wp2_with (guard_target = wpList _ _ _ (_ :: _) _ _; (refine a15dc6b3 ?_))
        obtain ⟨e, he⟩ : ∃ e, e = (65535 - y + c) % 65536 := ⟨_, rfl⟩
        have be : e < 65536 := by rw [he]; omega
        have eI : (65535 - (y : Int) + (c : Int)) % 65536 = ((e : Nat) : Int) := by omega
        rw [eI]
        have HE := Lib.hid he
        clear he eI
        go_loopg [10, 11] (j % 4) (PowerRel w (some ⟨b1, o1, none⟩) b1 o1 c1 d1 d2 d4 true l m (j % 4))
        case atStart => exact ⟨0, by omega, rfl, rfl, H⟩
        case round =>
         clear H
         obtain ⟨p, hp, rfl, rfl, H⟩ := hrel
         have bp : 65536 ^ p ≤ 281474976710656 := by
          have : 65536 ^ p ≤ 65536 ^ 3 := Nat.pow_le_pow_right (by omega) (by omega)
          exact this
         obtain ⟨P, hP⟩ : ∃ P, 65536 ^ p = P := ⟨_, rfl⟩
         rw [hP] at bp ⊢
         have HPP := Lib.hid hP
         clear hP
         by_cases hpr : p < j % 4
         ·have bp2 : P ≤ 4294967296 := by
           have : 65536 ^ p ≤ 65536 ^ 2 := Nat.pow_le_pow_right (by omega) (by omega)
           rw [HPP.out] at this
           exact this
          go_wp2_with (first | fail)
          go_roundg (j % 4 - (p + 1))
          case rel => exact ⟨p + 1, by omega, by congr 1, by rw [Nat.pow_succ, HPP.out]; rfl, H⟩
          case measure => omega
         ·obtain rfl : p = j % 4 := by omega
          obtain ⟨g, hg⟩ : ∃ g, (w4 (val m)).getD (j / 4) 0 = g := ⟨_, rfl⟩
          have st := w4_step (val m) e (j / 4) (j % 4) hq hr (by rw [hj.out]; have := val_lt HINV.out.1; rwa [HINV.out.2.1] at this) be
          rw [hg, HPP.out, hj.out] at st
          obtain ⟨st1, st2⟩ := st
          obtain ⟨M, hM⟩ : ∃ M, e * P = M := ⟨_, rfl⟩
          rw [hM] at st1 st2
          have hM2 : (e : Int) * (P : Int) = (M : Int) := by rw [← hM]; simp
          have ldW : (Res.cells d4 (wl (w4 (val m)))).at d4 (j / 4) [.int .u64 (g : Int)] := at_cells (by rw [wl_get (by rw [w4_length]; omega), hg])
          have wlen : (wl (w4 (val m))).length = 4 := by rw [wl_length, w4_length]
          have ST2 := Lib.hid st2
          clear hg hM st2
          have X0 := @wlen
          have X1 := @zz
          have X2 := @zz
          have X3 := @zz
          go_wp2_with (guard_target = wpList _ _ _ (_ :: _) _ _; (first | (refine a2601604 ?_) | (refine a218e51a ?_; clear H; (try clear w2); intro w2 H)))
          have e4 : (g : Int) + (M : Int) = ((g + M : Nat) : Int) := by omega
          rw [e4, wl_set, ST2.out] at H
          go_roundg (16 - (j + 1))
          case rel =>
           refine ⟨j + 1, (65535 - y + c) / 65536, m ++ [e], by omega, by congr 1, by congr 1; omega, by rw [HE.out]; exact HINV.out.neg (HDV.out.symm.trans hy.out) (by omega), ?_⟩
           rw [val_snoc, HINV.out.2.1]
           exact H
          case measure => omega
       | false =>
        go_wp2_with (guard_target = wpList _ _ _ (_ :: _) _ _; (refine a15dc6b3 ?_))
        obtain ⟨e, he⟩ : ∃ e, e = y := ⟨_, rfl⟩
        have be : e < 65536 := by rw [he]; omega
        have eI : (y : Int) = ((e : Nat) : Int) := by omega
        rw [eI]
        have HE := Lib.hid he
        clear he eI
        go_loopg [10, 11] (j % 4) (PowerRel w (some ⟨b1, o1, none⟩) b1 o1 c1 d1 d2 d4 false l m (j % 4))
        case atStart => exact ⟨0, by omega, rfl, rfl, H⟩
        case round =>
         clear H
         obtain ⟨p, hp, rfl, rfl, H⟩ := hrel
         have bp : 65536 ^ p ≤ 281474976710656 := by
          have : 65536 ^ p ≤ 65536 ^ 3 := Nat.pow_le_pow_right (by omega) (by omega)
          exact this
         obtain ⟨P, hP⟩ : ∃ P, 65536 ^ p = P := ⟨_, rfl⟩
         rw [hP] at bp ⊢
         have HPP := Lib.hid hP
         clear hP
         by_cases hpr : p < j % 4
         ·have bp2 : P ≤ 4294967296 := by
           have : 65536 ^ p ≤ 65536 ^ 2 := Nat.pow_le_pow_right (by omega) (by omega)
           rw [HPP.out] at this
           exact this
          go_wp2_with (first | fail)
          go_roundg (j % 4 - (p + 1))
          case rel => exact ⟨p + 1, by omega, by congr 1, by rw [Nat.pow_succ, HPP.out]; rfl, H⟩
          case measure => omega
         ·obtain rfl : p = j % 4 := by omega
          obtain ⟨g, hg⟩ : ∃ g, (w4 (val m)).getD (j / 4) 0 = g := ⟨_, rfl⟩
          have st := w4_step (val m) e (j / 4) (j % 4) hq hr (by rw [hj.out]; have := val_lt HINV.out.1; rwa [HINV.out.2.1] at this) be
          rw [hg, HPP.out, hj.out] at st
          obtain ⟨st1, st2⟩ := st
          obtain ⟨M, hM⟩ : ∃ M, e * P = M := ⟨_, rfl⟩
          rw [hM] at st1 st2
          have hM2 : (e : Int) * (P : Int) = (M : Int) := by rw [← hM]; simp
          have ldW : (Res.cells d4 (wl (w4 (val m)))).at d4 (j / 4) [.int .u64 (g : Int)] := at_cells (by rw [wl_get (by rw [w4_length]; omega), hg])
          have wlen : (wl (w4 (val m))).length = 4 := by rw [wl_length, w4_length]
          have ST2 := Lib.hid st2
          clear hg hM st2
          have X0 := @wlen
          have X1 := @zz
          have X2 := @zz
          have X3 := @zz
          go_wp2_with (guard_target = wpList _ _ _ (_ :: _) _ _; (first | (refine a2601604 ?_) | (refine a218e51a ?_; clear H; (try clear w2); intro w2 H)))
          have e4 : (g : Int) + (M : Int) = ((g + M : Nat) : Int) := by omega
          rw [e4, wl_set, ST2.out] at H
          go_roundg (16 - (j + 1))
          case rel =>
           refine ⟨j + 1, c, m ++ [e], by omega, by congr 1, rfl, by rw [HE.out]; exact HINV.out.pos (HDV.out.symm.trans hy.out), ?_⟩
           rw [val_snoc, HINV.out.2.1]
           exact H
          case measure => omega
      ·have hy0 : l.getD j 0 = 0 := getD_past hjl
       have HY0 := Lib.hid hy0
       clear hy0
       cases s with
       | true =>
        go_wp2_with (guard_target = wpList _ _ _ (_ :: _) _ _; (refine a15dc6b3 ?_))
        obtain ⟨e, he⟩ : ∃ e, e = (65535 + c) % 65536 := ⟨_, rfl⟩
        have be : e < 65536 := by rw [he]; omega
        have eI : (65535 + (c : Int)) % 65536 = ((e : Nat) : Int) := by omega
        rw [eI]
        have HE := Lib.hid he
        clear he eI
        go_loopg [10, 11] (j % 4) (PowerRel w A b1 o1 c1 d1 d2 d4 true l m (j % 4))
        case atStart => exact ⟨0, by omega, rfl, rfl, H⟩
        case round =>
         clear H
         obtain ⟨p, hp, rfl, rfl, H⟩ := hrel
         have bp : 65536 ^ p ≤ 281474976710656 := by
          have : 65536 ^ p ≤ 65536 ^ 3 := Nat.pow_le_pow_right (by omega) (by omega)
          exact this
         obtain ⟨P, hP⟩ : ∃ P, 65536 ^ p = P := ⟨_, rfl⟩
         rw [hP] at bp ⊢
         have HPP := Lib.hid hP
         clear hP
         by_cases hpr : p < j % 4
         ·have bp2 : P ≤ 4294967296 := by
           have : 65536 ^ p ≤ 65536 ^ 2 := Nat.pow_le_pow_right (by omega) (by omega)
           rw [HPP.out] at this
           exact this
          go_wp2_with (first | fail)
          go_roundg (j % 4 - (p + 1))
          case rel => exact ⟨p + 1, by omega, by congr 1, by rw [Nat.pow_succ, HPP.out]; rfl, H⟩
          case measure => omega
         ·obtain rfl : p = j % 4 := by omega
          obtain ⟨g, hg⟩ : ∃ g, (w4 (val m)).getD (j / 4) 0 = g := ⟨_, rfl⟩
          have st := w4_step (val m) e (j / 4) (j % 4) hq hr (by rw [hj.out]; have := val_lt HINV.out.1; rwa [HINV.out.2.1] at this) be
          rw [hg, HPP.out, hj.out] at st
          obtain ⟨st1, st2⟩ := st
          obtain ⟨M, hM⟩ : ∃ M, e * P = M := ⟨_, rfl⟩
          rw [hM] at st1 st2
          have hM2 : (e : Int) * (P : Int) = (M : Int) := by rw [← hM]; simp
          have ldW : (Res.cells d4 (wl (w4 (val m)))).at d4 (j / 4) [.int .u64 (g : Int)] := at_cells (by rw [wl_get (by rw [w4_length]; omega), hg])
          have wlen : (wl (w4 (val m))).length = 4 := by rw [wl_length, w4_length]
          have ST2 := Lib.hid st2
          clear hg hM st2
          have X0 := @wlen
          have X1 := @zz
          have X2 := @zz
          have X3 := @zz
          go_wp2_with (guard_target = wpList _ _ _ (_ :: _) _ _; (first | (refine a2601604 ?_) | (refine a218e51a ?_; clear H; (try clear w2); intro w2 H)))
          have e4 : (g : Int) + (M : Int) = ((g + M : Nat) : Int) := by omega
          rw [e4, wl_set, ST2.out] at H
          go_roundg (16 - (j + 1))
          case rel =>
           refine ⟨j + 1, (65535 + c) / 65536, m ++ [e], by omega, by congr 1, by congr 1, by rw [HE.out]; exact HINV.out.neg (HDV.out.symm.trans HY0.out) (by omega), ?_⟩
           rw [val_snoc, HINV.out.2.1]
           exact H
          case measure => omega
       | false =>
        go_wp2_with (guard_target = wpList _ _ _ (_ :: _) _ _; (refine a15dc6b3 ?_))
        go_loopg [10, 11] (j % 4) (PowerRel w A b1 o1 c1 d1 d2 d4 false l m (j % 4))
        case atStart => exact ⟨0, by omega, rfl, rfl, H⟩
        case round =>
         clear H
         obtain ⟨p, hp, rfl, rfl, H⟩ := hrel
         have bp : 65536 ^ p ≤ 281474976710656 := by
          have : 65536 ^ p ≤ 65536 ^ 3 := Nat.pow_le_pow_right (by omega) (by omega)
          exact this
         obtain ⟨P, hP⟩ : ∃ P, 65536 ^ p = P := ⟨_, rfl⟩
         rw [hP] at bp ⊢
         have HPP := Lib.hid hP
         clear hP
         by_cases hpr : p < j % 4
         ·have bp2 : P ≤ 4294967296 := by
           have : 65536 ^ p ≤ 65536 ^ 2 := Nat.pow_le_pow_right (by omega) (by omega)
           rw [HPP.out] at this
           exact this
          go_wp2_with (first | fail)
          go_roundg (j % 4 - (p + 1))
          case rel => exact ⟨p + 1, by omega, by congr 1, by rw [Nat.pow_succ, HPP.out]; rfl, H⟩
          case measure => omega
         ·obtain rfl : p = j % 4 := by omega
          obtain ⟨g, hg⟩ : ∃ g, (w4 (val m)).getD (j / 4) 0 = g := ⟨_, rfl⟩
          have st := w4_step (val m) 0 (j / 4) (j % 4) hq hr (by rw [hj.out]; have := val_lt HINV.out.1; rwa [HINV.out.2.1] at this) (by omega)
          rw [hg, hj.out] at st
          obtain ⟨st1, st2⟩ := st
          rw [Nat.zero_mul, Nat.add_zero, Nat.mul_zero, Nat.add_zero] at st2
          have ldW : (Res.cells d4 (wl (w4 (val m)))).at d4 (j / 4) [.int .u64 (g : Int)] := at_cells (by rw [wl_get (by rw [w4_length]; omega), hg])
          have wlen : (wl (w4 (val m))).length = 4 := by rw [wl_length, w4_length]
          have ST2 := Lib.hid st2
          clear hg st2
          have X0 := @wlen
          have X1 := @zz
          have X2 := @zz
          have X3 := @zz
          go_wp2_with (guard_target = wpList _ _ _ (_ :: _) _ _; (first | (refine a2601604 ?_) | (refine a218e51a ?_; clear H; (try clear w2); intro w2 H)))
          rw [wl_set, ST2.out] at H
          go_roundg (16 - (j + 1))
          case rel =>
           refine ⟨j + 1, c, m ++ [0], by omega, by congr 1, rfl, by exact HINV.out.pos (HDV.out.symm.trans HY0.out), ?_⟩
           rw [val_snoc, Nat.mul_zero, Nat.add_zero]
           exact H
          case measure => omega
     ·obtain rfl : j = 16 := by omega
      have hT := HDONE.out c m hinv
      have wlen : (wl (w4 (val m))).length = 4 := by rw [wl_length, w4_length]
      have hset : ∀ v0 v1 v2 v3 : Value, setL [v0, v1, v2, v3] 0 (wl (w4 (val m))) = wl (w4 (val m)) := fun v0 v1 v2 v3 => by
       rw [setL_eq _ _ _ (by rw [wlen]; simp), wlen]; simp
      have hres := iV_w4 z (val m) hT
      have HRES := Lib.hid hres
      have e16 : ((16 : Nat) : Int) = 16 := rfl
      rw [e16]
      clear hT hres e16
      have X0 := @wlen
      have X1 := @hset
      have X2 := @wl_one
      have X3 := @zz
      go_wp2_with (guard_target = wpList _ _ _ (_ :: _) _ _; (first | (refine a2601604 ?_) | (refine a218e51a ?_; clear H; (try clear w2); intro w2 H)))
      have r4 := H.loadVarN (P := Tryz.prog) (ty := 104) m1 (by simp) (by simp [wlen])
      rw [← HRES.out]
      exact bodyPost_ret (v := .tuple #[.agg (wl (w4 (val m))).toArray, .bool true]) (by simp [results, Tryz.results81, asAddr, r4]) rfl ⟨rfl, H.below⟩
variable {P : Program} {o : Oper} {a : Act} {w w0 : World} {B : Nat} {l : List Res} {Q : Exit → Act → World → Prop}
theorem o_makeSlice {K : Act → World → Prop} {ty e : TypeId} {xl xc : Operand} {n : Nat} {i : TypeInfo} {z : Value} {row : List Value} (ho : o.op = .makeSlice ty xl xc) (hl : a.eval xl = .int .i64 (n : Int)) (hc : a.eval xc = .int .i64 (n : Int))
  (ht : P.underlying ty = some (.slice e)) (hi : P.info? e = some i) (hz : i.zero = some z) (hm : n * i.size ≤ 16777216) (hb : i.bytes * n ≤ 281474976710656) (h63 : n ≤ 9223372036854775807) (H : Own B w0 w l) (hrow : (madeCells z.cells (n * i.size)).toList = row)
  (hk : ∀ w' b, Ext w w' → Own B w0 w' (.cells b row :: l) → K (a.put o.dst (.slice (some ⟨b, 0, none⟩) n n)) w') : o.wp P a w K Q := by
 unfold Oper.wp execOp
 subst hrow
 have := run_makeSlice (P := P) (w := w) ty e i z ht hi hz .i64 .i64 (n : Int) (n : Int) (by omega) (Int.le_refl _) (by simpa using hm) (by rw [← Int.natCast_mul]; omega) (by omega)
 simp only [Int.toNat_natCast] at this
 simp only [ho, hl, hc, Sem.run_bind, this]
 exact hk _ _ (below_alloc1 w _) (H.alloc _ e)
theorem o_make {K : Act → World → Prop} {ty e : TypeId} {xl xc : Operand} {n : Nat} {z : Value} {row : List Value} (hi : (P.info? e).map (fun i => (i.zero, i.size, i.bytes)) = some (some z, 1, 8)) (ho : o.op = .makeSlice ty xl xc) (hl : a.eval xl = .int .i64 (n : Int)) (hc : a.eval xc = .int .i64 (n : Int))
  (ht : P.underlying ty = some (.slice e)) (hm : n ≤ 100000) (H : Own B w0 w l) (hrow : (madeCells z.cells n).toList = row)
  (hk : ∀ w' b, Ext w w' → Own B w0 w' (.cells b row :: l) → K (a.put o.dst (.slice (some ⟨b, 0, none⟩) n n)) w') : o.wp P a w K Q := by
 obtain ⟨i, h1, h2⟩ := Option.map_eq_some_iff.1 hi
 simp only [Prod.mk.injEq] at h2
 exact o_makeSlice ho hl hc ht h1 h2.1 (by rw [h2.2.1]; omega) (by rw [h2.2.2]; omega) (by omega) H (by rw [h2.2.1, Nat.mul_one]; exact hrow) hk
theorem Own.toRd {B : Nat} {w0 w : World} {l : List Res} {b : Nat} {row : List Value} (H : Own B w0 w (.cells b row :: l)) : Own B w0 w (.rd (some ⟨b, 0, none⟩) b 0 row :: l) := by
 refine H.tail.add _ ⟨fun _ => rfl, fun j v hj => ?_⟩ (fun k hk => ⟨?_, by intro h; exact absurd h (by simp [Res.ro])⟩) (fun r' hr' => ?_)
 ·simpa using H.range m0 (at_cells (b := b) (o := j) hj) 0 _ rfl
 ·exact (H.lt _ m0 k hk.1).1
 ·have hp := H.apart
  rw [List.pairwise_cons] at hp
  rcases hp.1 r' hr' with h | h
  ·exact absurd h.1 (by simp [Res.ro])
  ·exact .inr fun k hk => h k hk.1
theorem made_dl (n : Nat) : (madeCells (Value.int .i64 0).cells n).toList = dl (List.replicate n 0) := by
 apply List.ext_getElem?
 intro i
 by_cases h : i < n
 ·simp [madeCells, dl, Value.cells, h, Nat.mod_one]
 ·simp [madeCells, dl, Value.cells, h]
theorem dl_set (l : List Nat) (k v : Nat) : (dl l).set k (.int .i64 (v : Int)) = dl (l.set k v) := by simp [dl, List.map_set]
theorem Dg.set {l : List Nat} (h : Dg l) (k v : Nat) (hv : v < 65536) : Dg (l.set k v) := fun d hd => by
 rcases List.mem_or_eq_of_mem_set hd with h' | h'
 ·exact h d h'
 ·rw [h']; exact hv
theorem Dg.zeros (n : Nat) : Dg (List.replicate n 0) := fun d hd => by rw [(List.mem_replicate.1 hd).2]; omega
def RetC (F : Nat → Prop) (w : World) (n : Nat) (e : Ending) (w' : World) : Prop :=
 ∃ A c l, e = .returned (.slice A l.length c) ∧ Below w.heap.size w w' ∧ Sl F w' A (dl l) ∧ CnI l n ∧ l.length ≤ c ∧ c ≤ maxLen
theorem Own.notF {B : Nat} {w0 w : World} {l : List Res} {F : Nat → Prop} {b : Nat} {row : List Value} (H : Own B w0 w l) (hm : Res.cells b row ∈ l) (hF : ∀ k, F k → k < B) : ¬ F b := fun h => by
 have h1 := (H.lt _ hm b rfl).2 rfl
 have h2 := hF _ h
 omega
theorem field_num1 (x y : Value) (w : World) : (Instr.field 124 (.agg #[x, y]) 1).run Tryz.prog w = .ok y w := by kernel_rfl
end Go.Proofs.YtlhmjhildlnokaaGreat
