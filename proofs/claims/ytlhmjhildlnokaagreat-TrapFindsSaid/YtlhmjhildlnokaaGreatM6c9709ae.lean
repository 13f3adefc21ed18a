/-
  Digits of base 65536 as digits of any base. Plain laws; nothing of the program stands here.
-/
import Derived.Test.YtlhmjhildlnokaaGreatMd6b25c4b
import Derived.Test.YtlhmjhildlnokaaGreatRows
import Derived.Test.YtlhmjhildlnokaaGreatM1e5483af
import Derived.WalkKit
import Derived.Lib.Hide
import Derived.Test.YtlhmjhildlnokaaGreatM586e9777
import Derived.Deep.LoopGhost
import Derived.Deep.RegionHeld3
import Derived.Deep.QuietTactic
import Derived.BigQuiet
import Derived.Laws.StructEq
import Derived.StillTailTactics
import Derived.Deep.MidRow
import Derived.Lib.Mul64
import Derived.Test.YtlhmjhildlnokaaGreatM0d4adf42
import Derived.Test.YtlhmjhildlnokaaGreatM28ca6b73
namespace Go.Proofs.YtlhmjhildlnokaaGreat
set_option linter.unusedVariables false
set_option linter.unusedSimpArgs false
open Go.RowKit
theorem ref03ax1 {P Q : Prop} (k : Q) (h : Hold Q → P := by (intro kk; guard_target = wpList _ _ _ (Oper.mk _ (.call { callee := .builtin .append, args := _, argTypes := _ }) _ _ _ _ :: _) _ _; (with_reducible refine BigFrame.wpList_want ?_ (fun K hK => ?_)); exact rfl; refine o_append (row := ?_) (n := ?_) (xs := ?_) (l' := ?_) Tryz.infoInt rfl rfl rfl H ?_ rfl ?_ ?_ (by kernel_rfl) rfl (by decide) ?_ ?_ ?_ (fun v2 w3 H2 hn => hK _ _ ?_); rotate_left 4; (repeat first | exact .head _ | apply List.Mem.tail); (focus (simp; done)); (focus (intro _; (exact r1))); exact rfl; exact (by unfold maxLen; omega); exact (by omega); clear hK K hn; simp only [List.take_succ_cons, List.take_zero, Nat.one_mul] at H2; simp only [Act.put, List.setIfInBounds_toArray, List.set_cons_succ, List.set_cons_zero]; revert H2; revert w3; revert v2; exact kk.out)) : P := h ⟨k⟩
theorem Tryz.infoInt : (Tryz.prog.info? 3).map (fun i => (i.zero, i.size, i.bytes)) = some (some (.int .i64 0), 1, 8) := by kernel_rfl
def RetP (F : Nat → Prop) (w : World) (n m : Nat) (e : Ending) (w' : World) : Prop :=
 ∃ A c l, e = .returned (.slice A l.length c) ∧ Below w.heap.size w w' ∧ Sl F w' A (dl l) ∧ Dg l ∧ val l = n ∧ l.length ≤ m + 1 ∧ l.length ≤ c ∧ c ≤ maxLen ∧ (l.length = m + 1 → 65536 ^ m ≤ n)
def RetD (F : Nat → Prop) (w : World) (n len : Nat) (e : Ending) (w' : World) : Prop :=
 ∃ A c l, e = .returned (.slice A l.length c) ∧ Below w.heap.size w w' ∧ Sl F w' A (dl l) ∧ Dg l ∧ val l = n ∧ l.length ≤ len ∧ l.length ≤ c ∧ c ≤ maxLen
def PlusRel (F : Nat → Prop) (w : World) (A1 A2 : Option Addr) (b1 o1 b2 o2 : Nat) (a b : List Nat) (k : Nat) (out cy i : Value) (wr : World) : Prop :=
 ∃ l c, k + l.length = max a.length b.length + 1 ∧ i = .int .i64 (l.length : Int) ∧ cy = .int .i64 ((c : Nat) : Int) ∧ c ≤ 1 ∧ Dg l ∧ val l + 65536 ^ l.length * c = val (a.take l.length) + val (b.take l.length) ∧
  (k = 0 → c = 0) ∧ (k = 0 → 65536 ^ max a.length b.length ≤ val l) ∧ Own w.heap.size w wr [.grow 3 1 out l.length (dl l), .rd A1 b1 o1 (dl a), .rd A2 b2 o2 (dl b)]
theorem plus_close {F : Nat → Prop} {w w2 : World} {A1 A2 : Option Addr} {b1 o1 b2 o2 : Nat} {a b l : List Nat} {gk c x y : Nat} {v2 : Value} {e1 e2 e3 : Int} {r0 : Res}
  (hk : gk + l.length = max a.length b.length + 1) (hc : c ≤ 1) (gl : Dg l) (hv : val l + 65536 ^ l.length * c = val (a.take l.length) + val (b.take l.length)) (h0 : 0 < gk) (hz : l.length = max a.length b.length → x = 0 ∧ y = 0 ∧ 0 < c)
  (hx : a.getD l.length 0 = x) (hy : b.getD l.length 0 = y) (bx : x < 65536) (by_ : y < 65536) (q1 : e1 = (c + x + y : Int) % 65536) (q2 : e2 = (c + x + y : Int) / 65536) (q3 : e3 = (l.length : Int) + 1)
  (H : Own w.heap.size w w2 [r0, .grow 3 1 v2 (l.length + 1) (dl l ++ [.int .i64 e1]), .rd A1 b1 o1 (dl a), .rd A2 b2 o2 (dl b)]) :
  PlusRel F w A1 A2 b1 o1 b2 o2 a b (gk - 1) v2 (.int .i64 e2) (.int .i64 e3) w2 := by
 have f1 : e1 = (((c + x + y) % 65536 : Nat) : Int) := by omega
 have f2 : e2 = (((c + x + y) / 65536 : Nat) : Int) := by omega
 refine ⟨l ++ [(c + x + y) % 65536], (c + x + y) / 65536, by simp; omega, by rw [q3]; simp, by rw [f2], by omega, gl.snoc (by omega), ?_, fun hg => ?_, fun hg => ?_, ?_⟩
 ·rw [List.length_append]
  exact plus_step a b l l.length c _ rfl hv (by rw [hx, hy])
 ·obtain ⟨rfl, rfl, _⟩ := hz (by omega)
  omega
 ·have hl : l.length = max a.length b.length := by omega
  obtain ⟨rfl, rfl, h1⟩ := hz hl
  obtain rfl : c = 1 := by omega
  rw [val_snoc, hl]
  have : 65536 ^ max a.length b.length * 1 ≤ 65536 ^ max a.length b.length * ((1 + 0 + 0) % 65536) := Nat.mul_le_mul_left _ (by decide)
  omega
 ·have := H.tail
  rw [List.length_append, dl_append]
  rw [f1] at this
  exact this
set_option maxRecDepth 100000 in
set_option maxHeartbeats 2000000 in
theorem plus_full (F : Nat → Prop) (w : World) (hF : ∀ k, F k → k < w.heap.size) (A1 A2 : Option Addr) (c1 c2 : Nat) (a b : List Nat) (ha : Sl F w A1 (dl a)) (hb : Sl F w A2 (dl b)) (ga : Dg a) (gb : Dg b) (la : a.length ≤ 1000) (lb : b.length ≤ 1000) :
  Calls Tryz.prog 104 #[.slice A1 a.length c1, .slice A2 b.length c2] w (RetP F w (val a + val b) (max a.length b.length)) := by
 obtain ⟨b2, o2, H, f2⟩ := (Own.start w).addSl (hb.ro (by rfl))
 obtain ⟨b1, o1, H1, f1⟩ := H.addSl (ha.ro (by rfl))
 clear ha hb H
 go_enter Tryz.func104, Tryz.ntmps104
 go_wp2
 go_loopg [5, 6, 7] (max a.length b.length + 1) (PlusRel F w A1 A2 b1 o1 b2 o2 a b)
 case atStart =>
  exact ⟨[], 0, rfl, rfl, rfl, by omega, Dg.nil, by simp [val], fun _ => rfl, fun h => by omega, H1.grow_nil _ 1⟩
 case round =>
  clear H1
  obtain ⟨l, c, hk, rfl, rfl, hc, gl, hv, hz, hz2, H⟩ := hrel
  have HZ := Lib.hid hz2
  clear hz2
  have gv := hv
  clear hv
  have hv := Lib.hid gv
  clear gv
  by_cases h1 : l.length < a.length
  ·obtain rfl := H.rdAddr m1 (by rw [dl_length]; omega)
   obtain ⟨x, hx, bx, tx⟩ := dig_at h1 ga
   replace tx := tx (some ⟨b1, o1, none⟩) b1 o1
   by_cases h2 : l.length < b.length
   ·obtain rfl := H.rdAddr m2 (by rw [dl_length]; omega)
    obtain ⟨y, hy, by_, ty⟩ := dig_at h2 gb
    replace ty := ty (some ⟨b2, o2, none⟩) b2 o2
    go_wp2_with (guard_target = wpList _ _ _ (_ :: _) _ _; (first | (refine ref03ax1 ?_; intro v2; clear H; (try clear w2); intro w2 H) | (refine a15dc6b3 ?_) | (refine a9475ade ?_; intro b2; clear H; (try clear w2); intro w2 H)))
    go_roundg (gk - 1)
    case rel => exact plus_close hk hc gl hv.out (by omega) (by omega) hx.out hy.out (by omega) (by omega) (by omega) (by omega) (by omega) H
    case measure => omega
   ·go_wp2_with (guard_target = wpList _ _ _ (_ :: _) _ _; (first | (refine ref03ax1 ?_; intro v2; clear H; (try clear w2); intro w2 H) | (refine a15dc6b3 ?_) | (refine a9475ade ?_; intro b2; clear H; (try clear w2); intro w2 H)))
    go_roundg (gk - 1)
    case rel => exact plus_close hk hc gl hv.out (by omega) (by omega) hx.out (getD_past h2) (by omega) (by omega) (by omega) (by omega) (by omega) H
    case measure => omega
  ·by_cases h2 : l.length < b.length
   ·obtain rfl := H.rdAddr m2 (by rw [dl_length]; omega)
    obtain ⟨y, hy, by_, ty⟩ := dig_at h2 gb
    replace ty := ty (some ⟨b2, o2, none⟩) b2 o2
    go_wp2_with (guard_target = wpList _ _ _ (_ :: _) _ _; (first | (refine ref03ax1 ?_; intro v2; clear H; (try clear w2); intro w2 H) | (refine a15dc6b3 ?_) | (refine a9475ade ?_; intro b2; clear H; (try clear w2); intro w2 H)))
    go_roundg (gk - 1)
    case rel => exact plus_close hk hc gl hv.out (by omega) (by omega) (getD_past h1) hy.out (by omega) (by omega) (by omega) (by omega) (by omega) H
    case measure => omega
   ·by_cases h3 : 0 < c
    ·go_wp2_with (guard_target = wpList _ _ _ (_ :: _) _ _; (first | (refine ref03ax1 ?_; intro v2; clear H; (try clear w2); intro w2 H) | (refine a9475ade ?_; intro b2; clear H; (try clear w2); intro w2 H)))
     go_roundg (gk - 1)
     case rel => exact plus_close hk hc gl hv.out (by omega) (by omega) (getD_past h1) (getD_past h2) (by omega) (by omega) (by omega) (by omega) (by omega) H
     case measure => omega
    ·obtain rfl : c = 0 := by omega
     go_wp2_with fail
     go_ret
     obtain ⟨A, cap, rfl, hcap, hmax, hs⟩ := H.giveGrow m0 hF
     have h4 := hv.out
     rw [val_take_all a _ (by omega), val_take_all b _ (by omega), Nat.mul_zero, Nat.add_zero] at h4
     refine ⟨A, cap, l, rfl, H.below, hs, gl, h4, by omega, hcap, hmax, fun hl => ?_⟩
     rw [← h4]
     exact HZ.out (by omega)
theorem plus_any (F : Nat → Prop) (w : World) (hF : ∀ k, F k → k < w.heap.size) (A1 A2 : Option Addr) (c1 c2 : Nat) (a b : List Nat) (ha : Sl F w A1 (dl a)) (hb : Sl F w A2 (dl b)) (ga : Dg a) (gb : Dg b) (la : a.length ≤ 1000) (lb : b.length ≤ 1000) :
  Calls Tryz.prog 104 #[.slice A1 a.length c1, .slice A2 b.length c2] w (RetD F w (val a + val b) (max a.length b.length + 1)) := by
 refine (plus_full F w hF A1 A2 c1 c2 a b ha hb ga gb la lb).mono ?_
 rintro e w' ⟨A, c, l, he, hb, hs, hg, hv, h1, h2, h3, h4⟩
 exact ⟨A, c, l, he, hb, hs, hg, hv, h1, h2, h3⟩
theorem CnI.of_len {l : List Nat} {n : Nat} (g : Dg l) (hv : val l = n) (h : l ≠ [] → 65536 ^ (l.length - 1) ≤ n) : CnI l n := by
 refine ⟨g, fun hn h0 => ?_, by rw [hv]; simp⟩
 have h1 := h hn
 have e : l = l.dropLast ++ [0] := by
  have := List.dropLast_concat_getLast hn
  rw [h0] at this
  exact this.symm
 have h2 : val l = val l.dropLast := by
  conv => lhs; rw [e, val_snoc]
  simp
 have h3 := val_lt (l := l.dropLast) (fun d hd => g d (List.dropLast_subset _ hd))
 rw [List.length_dropLast] at h3
 omega
theorem plus_can {F : Nat → Prop} {w w' : World} {m n : Nat} {a b : List Nat} {e : Ending} (ga : CnI a m) (gb : CnI b n) (h : RetP F w (val a + val b) (max a.length b.length) e w') :
  ∃ A c l, e = .returned (.slice A l.length c) ∧ Below w.heap.size w w' ∧ Sl F w' A (dl l) ∧ CnI l ((m + n : Nat) : Int) ∧ l.length ≤ c ∧ c ≤ maxLen := by
 obtain ⟨A, c, l, he, hb, hs, hg, hv, h1, h2, h3, h4⟩ := h
 have e1 := ga.2.2
 have e2 := gb.2.2
 simp only [Int.natAbs_natCast] at e1 e2
 refine ⟨A, c, l, he, hb, hs, CnI.of_len hg (by rw [hv, e1, e2]) (fun hn => ?_), h2, h3⟩
 by_cases h5 : l.length = max a.length b.length + 1
 ·rw [h5, ← e1, ← e2]; exact h4 h5
 ·have hp : 0 < l.length := List.length_pos_iff.2 hn
  rcases Nat.le_total a.length b.length with h6 | h6
  ·have hb0 : b ≠ [] := fun h => by have : b.length = 0 := (by rw [h]; rfl); omega
   have := val_pos hb0 (gb.2.1 hb0)
   rw [← e1, ← e2]
   have h7 : 65536 ^ (l.length - 1) ≤ 65536 ^ (b.length - 1) := Nat.pow_le_pow_right (by omega) (by omega)
   omega
  ·have ha0 : a ≠ [] := fun h => by have : a.length = 0 := (by rw [h]; rfl); omega
   have := val_pos ha0 (ga.2.1 ha0)
   rw [← e1, ← e2]
   have h7 : 65536 ^ (l.length - 1) ≤ 65536 ^ (a.length - 1) := Nat.pow_le_pow_right (by omega) (by omega)
   omega
def sgn (b : Bool) (n : Nat) : Int := if b then -(n : Int) else n
theorem sgn_neg {s : Bool} {n : Nat} (h : 0 < n) : decide (sgn s n < 0) = s := by
 cases s <;> simp [sgn] <;> omega
theorem sgn_abs (s : Bool) (n : Nat) : (sgn s n).natAbs = n := by cases s <;> simp [sgn]
def RetN (F : Nat → Prop) (w : World) (z : Int) (e : Ending) (w' : World) : Prop :=
 ∃ A c l, e = .returned (.agg #[.bool (decide (z < 0)), .slice A l.length c]) ∧ Below w.heap.size w w' ∧ Sl F w' A (dl l) ∧ CnI l z ∧ l.length ≤ c ∧ c ≤ maxLen
def TrimRel (w : World) (A : Option Addr) (b1 o1 b2 b3 c : Nat) (l : List Nat) (s : Bool) (k : Nat) (wr : World) : Prop :=
 k ≤ l.length ∧ val (l.take k) = val l ∧ Own w.heap.size w wr [.cells b3 [.bool false, .slice none 0 0], .cells b2 [.bool s, .slice A k c], .rd A b1 o1 (dl l)]
set_option maxRecDepth 100000 in
set_option maxHeartbeats 2000000 in
theorem trim_any (F : Nat → Prop) (w : World) (hF : ∀ k, F k → k < w.heap.size) (s : Bool) (A : Option Addr) (c : Nat) (l : List Nat) (ha : Sl F w A (dl l)) (g : Dg l) (hl : l.length ≤ 1000) (hc : l.length ≤ c) (hm : c ≤ maxLen) :
  Calls Tryz.prog 88 #[.agg #[.bool s, .slice A l.length c]] w (RetN F w (sgn s (val l))) := by
 unfold maxLen at hm
 obtain ⟨b1, o1, H, f1⟩ := (Own.start w).addSl (ha.ro (by rfl))
 clear ha
 go_enter Tryz.func88, Tryz.ntmps88
 have tk0 : True := trivial
 have tk1 : True := trivial
 go_wp2_with (guard_target = wpList _ _ _ (_ :: _) _ _; (refine a9475ade ?_; intro b2; clear H; (try clear w2); intro w2 H; (first | (clear tk0; rename Nat => b2) | (clear tk1; rename Nat => b3))))
 go_loopg [] l.length (TrimRel w A b1 o1 b2 b3 c l s)
 case atStart => exact ⟨Nat.le_refl _, by rw [List.take_length], H⟩
 case round =>
  clear H
  obtain ⟨hk, hv, H⟩ := hrel
  have HV := Lib.hid hv
  clear hv
  by_cases h0 : 0 < gk
  ·obtain ⟨j, rfl⟩ : ∃ j, gk = j + 1 := ⟨gk - 1, by omega⟩
   have e1 : ((j + 1 : Nat) : Int) - 1 = (j : Int) := by omega
   obtain rfl := H.rdAddr m2 (by rw [dl_length]; omega)
   obtain ⟨x, hx, bx, tx⟩ := dig_at (show j < l.length by omega) g
   replace tx := tx (some ⟨b1, o1, none⟩) b1 o1
   by_cases hx0 : x = 0
   ·subst hx0
    go_wp2_with (guard_target = wpList _ _ _ (_ :: _) _ _; (first | (refine a15dc6b3 ?_) | (refine a181aa22 ?_; clear H; (try clear w2); intro w2 H)))
    go_roundg j
    case rel =>
     refine ⟨by omega, ?_, H⟩
     rw [← val_drop_top hx.out]
     exact HV.out
    case measure => omega
   ·have hx1 : ((x : Int) == 0) = false := by simpa using hx0
    go_wp2_with (guard_target = wpList _ _ _ (_ :: _) _ _; (first | (refine a15dc6b3 ?_) | (refine a181aa22 ?_; clear H; (try clear w2); intro w2 H)))
    have hr := H.loadVarN (P := Tryz.prog) (ty := 124) m0 (by simp) (by simp)
    have hs := ((H.giveRd m2 f1).take (j + 1)).fw
    rw [← dl_take] at hs
    have ht : ∀ hn : l.take (j + 1) ≠ [], (l.take (j + 1)).getLast hn ≠ 0 := top_take (by omega) (by rw [hx.out]; exact hx0)
    have hlen : (l.take (j + 1)).length = j + 1 := by rw [List.length_take]; omega
    have hpos : 0 < val l := by
     rw [← HV.out]
     exact Nat.lt_of_lt_of_le (Nat.pow_pos (by omega)) (val_pos (by intro h; rw [h] at hlen; simp at hlen) (ht _))
    refine bodyPost_ret (v := .agg #[.bool s, .slice (some ⟨b1, o1, none⟩) (j + 1) c]) (by simp [results, Tryz.results88, asAddr, hr]) rfl ⟨some ⟨b1, o1, none⟩, c, l.take (j + 1), ?_, H.below, hs, ⟨g.take _, ht, ?_⟩, by omega, by unfold maxLen; omega⟩
    ·rw [sgn_neg hpos, hlen]
    ·rw [sgn_abs]; exact HV.out
  ·obtain rfl : gk = 0 := by omega
   go_wp2_with (first
    | go_big_skip
    | (guard_target = wpList _ _ _ (_ :: _) _ _; (first | (refine a15dc6b3 ?_) | (refine a181aa22 ?_; clear H; (try clear w2); intro w2 H))))
   have hr := H.loadVarN (P := Tryz.prog) (ty := 124) m0 (by simp) (by simp)
   have hv := HV.out
   simp only [List.take_zero, val] at hv
   refine bodyPost_ret (v := .agg #[.bool false, .slice A 0 c]) (by simp [results, Tryz.results88, asAddr, hr]) rfl ⟨A, c, [], ?_, H.below, Sl.nil_ _ _ _, ?_, Nat.zero_le _, by unfold maxLen; omega⟩
   ·rw [← hv]; cases s <;> rfl
   ·rw [← hv]; cases s <;> exact CnI.zero
end Go.Proofs.YtlhmjhildlnokaaGreat
namespace Go.Proofs.YtlhmjhildlnokaaGreat
set_option linter.unusedVariables false
open Go.RowKit
def Wd (x : Int) : Prop := 0 ≤ x ∧ x ≤ 18446744073709551615
def R256 (z : Int) : Prop := -57896044618658097711785492504343953926634992332820282019728792003956564819968 ≤ z ∧ z < 57896044618658097711785492504343953926634992332820282019728792003956564819968
instance (z : Int) : Decidable (R256 z) := by unfold R256; infer_instance
def iV (z : Int) : Value := .agg #[.int .u64 (z % 18446744073709551616), .int .u64 (z / 18446744073709551616 % 18446744073709551616),
 .int .u64 (z / 340282366920938463463374607431768211456 % 18446744073709551616), .int .u64 (z / 6277101735386680763835789423207666416102355444464034512896 % 18446744073709551616)]
def ngB (d : Int) : Bool := decide (9223372036854775808 ≤ d)
def sv (a b c d : Int) : Int := a + 18446744073709551616 * b + 340282366920938463463374607431768211456 * c + 6277101735386680763835789423207666416102355444464034512896 * d -
 (if 9223372036854775808 ≤ d then 115792089237316195423570985008687907853269984665640564039457584007913129639936 else 0)
theorem sv_neg {a b c d : Int} (ha : Wd a) (hb : Wd b) (hc : Wd c) (hd : Wd d) : ngB d = decide (sv a b c d < 0) := by
 unfold Wd at *; unfold ngB sv
 rw [decide_eq_decide]
 split <;> omega
theorem iV_words (z : Int) (hz : R256 z) : ∃ a b c d, Wd a ∧ Wd b ∧ Wd c ∧ Wd d ∧ sv a b c d = z ∧ iV z = .agg #[.int .u64 a, .int .u64 b, .int .u64 c, .int .u64 d] := by
 have h1 : z / 340282366920938463463374607431768211456 = z / 18446744073709551616 / 18446744073709551616 := by
  rw [Int.ediv_ediv_of_nonneg (by omega)]; rfl
 have h2 : z / 6277101735386680763835789423207666416102355444464034512896 = z / 18446744073709551616 / 18446744073709551616 / 18446744073709551616 := by
  rw [Int.ediv_ediv_of_nonneg (by omega), Int.ediv_ediv_of_nonneg (by omega)]; rfl
 refine ⟨_, _, _, _, ?_, ?_, ?_, ?_, ?_, rfl⟩
 ·unfold Wd; omega
 ·unfold Wd; omega
 ·unfold Wd; omega
 ·unfold Wd; omega
 ·unfold R256 at hz
  rw [h1, h2]
  unfold sv
  split <;> omega
def fitZ (z : Int) : Int := if R256 z then z else 0
theorem Tryz.own0 : ownKnob Tryz.prog.godebug = none := by kernel_rfl
theorem Tryz.laidOut : laidOutB Tryz.prog = true := by kernel_rfl
theorem iV_zero : iV 0 = .agg #[.int .u64 0, .int .u64 0, .int .u64 0, .int .u64 0] := by kernel_rfl
def F64 (z : Int) : Prop := -9223372036854775808 ≤ z ∧ z ≤ 9223372036854775807
instance (z : Int) : Decidable (F64 z) := by unfold F64; infer_instance
def cmpZW (x y : Int) : Int := if x < y then -1 else if y < x then 1 else 0
theorem tri (a b : Int) : (decide (a < b) = true ∧ Hid (a < b)) ∨ (decide (a < b) = false ∧ decide (b < a) = true ∧ Hid (b < a)) ∨ (decide (a < b) = false ∧ decide (b < a) = false ∧ Hid (a = b)) := by
 by_cases h : a < b
 ·exact Or.inl ⟨by simpa using h, Lib.hid h⟩
 ·by_cases h' : b < a
  ·exact Or.inr (Or.inl ⟨by simpa using h, by simpa using h', Lib.hid h'⟩)
  ·exact Or.inr (Or.inr ⟨by simpa using h, by simpa using h', Lib.hid (by omega)⟩)
end Go.Proofs.YtlhmjhildlnokaaGreat
namespace Go.Proofs.YtlhmjhildlnokaaGreat
set_option linter.unusedVariables false
set_option linter.unusedSimpArgs false
open Go.RowKit
end Go.Proofs.YtlhmjhildlnokaaGreat
namespace Go.Proofs.YtlhmjhildlnokaaGreat
set_option linter.unusedVariables false
open Go.RowKit
def mL (m : Int) : List Value := [.int .u64 (m % 18446744073709551616), .int .u64 (m / 18446744073709551616 % 18446744073709551616),
 .int .u64 (m / 18446744073709551616 / 18446744073709551616 % 18446744073709551616),
 .int .u64 (m / 18446744073709551616 / 18446744073709551616 / 18446744073709551616 % 18446744073709551616),
 .int .u64 (m / 18446744073709551616 / 18446744073709551616 / 18446744073709551616 / 18446744073709551616 % 18446744073709551616),
 .int .u64 (m / 18446744073709551616 / 18446744073709551616 / 18446744073709551616 / 18446744073709551616 / 18446744073709551616 % 18446744073709551616),
 .int .u64 (m / 18446744073709551616 / 18446744073709551616 / 18446744073709551616 / 18446744073709551616 / 18446744073709551616 / 18446744073709551616 % 18446744073709551616),
 .int .u64 (m / 18446744073709551616 / 18446744073709551616 / 18446744073709551616 / 18446744073709551616 / 18446744073709551616 / 18446744073709551616 / 18446744073709551616 % 18446744073709551616)]
def MagAt (w : World) (b : Nat) (m : Int) : Prop := w.rangeAt b 0 (mL m) ∧ w.there b 0 8
theorem MagAt.below {w w' : World} {b : Nat} {m : Int} (h : MagAt w b m) (hb : Below w.heap.size w w') : MagAt w' b m := by
 refine ⟨fun j v hv => below_cell hb (h.1 j v hv), fun j hj => ?_⟩
 obtain ⟨u, hu⟩ := Option.isSome_iff_exists.1 (h.2 j hj).1
 exact ⟨by rw [below_cell hb hu]; rfl, below_frozen hb hu (h.2 j hj).2⟩
theorem MagAt.alloc {w : World} {b : Nat} {m : Int} (h : MagAt w b m) (ob : Obj) : MagAt (w.alloc ob) b m := ⟨World.rangeAt_alloc h.1 ob, World.there_alloc h.2 ob⟩
theorem MagAt.drew {w : World} {b : Nat} {m : Int} (h : MagAt w b m) : MagAt w.drew b m := ⟨(World.rangeAt_drew ..).2 h.1, (World.there_drew ..).2 h.2⟩
theorem MagAt.new (w : World) (m : Int) (T : TypeId) : MagAt (w.alloc (.cells (mL m).toArray T)) w.heap.size m := by
 refine ⟨fun j v hv => ?_, fun j hj => ?_⟩
 ·have hj : j < 8 := (List.getElem?_eq_some_iff.1 hv).1
  rw [World.cell?_alloc_new]
  simpa using hv
 ·have : ∃ v, (mL m)[j]? = some v := ⟨(mL m)[j], List.getElem?_eq_getElem _⟩
  obtain ⟨v, hv⟩ := this
  constructor
  ·simp [go_sem, mL, hj]
  ·simp [go_sem]
end Go.Proofs.YtlhmjhildlnokaaGreat
namespace Go.Proofs.YtlhmjhildlnokaaGreat
set_option linter.unusedVariables false
set_option linter.unusedSimpArgs false
open Go.RowKit
end Go.Proofs.YtlhmjhildlnokaaGreat
namespace Go.Proofs.YtlhmjhildlnokaaGreat
set_option linter.unusedVariables false
def vB (B : Nat) : List Nat → Nat
 | [] => 0
 | d :: l => d + B * vB B l
theorem vB_append (B : Nat) (l m : List Nat) : vB B (l ++ m) = vB B l + B ^ l.length * vB B m := by
 induction l with
 | nil => simp [vB]
 | cons d l ih => simp only [List.cons_append, vB, ih, List.length_cons, Nat.pow_succ]; rw [Nat.mul_add, ← Nat.mul_assoc, Nat.mul_comm (B ^ l.length) B]; omega
theorem vB_split (B : Nat) (l : List Nat) (i : Nat) (h : i < l.length) : vB B l = vB B (l.take i) + B ^ i * (l.getD i 0 + B * vB B (l.drop (i + 1))) := by
 have e : l = l.take i ++ (l.getD i 0 :: l.drop (i + 1)) := by
  rw [List.getD_eq_getElem?_getD, List.getElem?_eq_getElem h]
  simp
 conv => lhs; rw [e]
 rw [vB_append, List.length_take, Nat.min_eq_left (by omega)]
 rfl
theorem vB_set (B : Nat) (l : List Nat) (k v : Nat) (h : k < l.length) : vB B (l.set k v) + B ^ k * l.getD k 0 = vB B l + B ^ k * v := by
 rw [vB_split B l k h, vB_split B (l.set k v) k (by simpa using h)]
 have e1 : (l.set k v).take k = l.take k := by rw [List.take_set_of_le (Nat.le_refl _)]
 have e2 : (l.set k v).getD k 0 = v := by rw [List.getD_eq_getElem?_getD, List.getElem?_set_self h]; rfl
 have e3 : (l.set k v).drop (k + 1) = l.drop (k + 1) := by rw [List.drop_set_of_lt (by omega)]
 rw [e1, e2, e3, Nat.mul_add, Nat.mul_add]
 omega
theorem vB_take_succ (B : Nat) (l : List Nat) (j : Nat) : vB B (l.take (j + 1)) = vB B (l.take j) + B ^ j * l.getD j 0 := by
 by_cases h : j < l.length
 ·rw [List.take_succ_eq_append_getElem h, vB_append, List.length_take, Nat.min_eq_left (by omega), List.getD_eq_getElem?_getD, List.getElem?_eq_getElem h]; simp [vB]
 ·rw [List.take_of_length_le (by omega), List.take_of_length_le (by omega), List.getD_eq_getElem?_getD, List.getElem?_eq_none (by omega)]; simp
theorem vB_zeros (B n : Nat) : vB B (List.replicate n 0) = 0 := by
 induction n with
 | zero => rfl
 | succ n ih => simp [List.replicate_succ, vB, ih]
theorem mul_round (B : Nat) (l b : List Nat) (P x y : Nat) (i j c v c' old : Nat) (hij : i + j < l.length) (hold : l.getD (i + j) 0 = old) (hy : b.getD j 0 = y)
  (hv : vB B l + B ^ (i + j) * c = P + B ^ i * (x * vB B (b.take j))) (h : v + B * c' = old + c + x * y) :
  vB B (l.set (i + j) v) + B ^ (i + (j + 1)) * c' = P + B ^ i * (x * vB B (b.take (j + 1))) := by
 have h1 := vB_set B l (i + j) v hij
 rw [hold] at h1
 rw [vB_take_succ, hy]
 have h2 : B ^ (i + (j + 1)) * c' = B ^ (i + j) * (B * c') := by rw [← Nat.add_assoc, Nat.pow_succ, Nat.mul_assoc]
 have h3 : B ^ (i + j) * v + B ^ (i + j) * (B * c') = B ^ (i + j) * old + B ^ (i + j) * c + B ^ (i + j) * (x * y) := by
  rw [← Nat.mul_add, h, Nat.mul_add, Nat.mul_add]
 have h4 : B ^ i * (x * (vB B (b.take j) + B ^ j * y)) = B ^ i * (x * vB B (b.take j)) + B ^ (i + j) * (x * y) := by
  rw [Nat.mul_add, Nat.mul_add, Nat.pow_add]
  congr 1
  simp only [Nat.mul_assoc, Nat.mul_comm, Nat.mul_left_comm]
 rw [h2, h4]
 omega
theorem mul_next (B : Nat) (a b : List Nat) (i x : Nat) (hx : a.getD i 0 = x) : vB B (a.take i) * vB B b + B ^ i * (x * vB B b) = vB B (a.take (i + 1)) * vB B b := by
 rw [vB_take_succ, hx, Nat.add_mul, Nat.mul_assoc]
theorem vB_digit (B : Nat) (hB : 0 < B) : ∀ (l : List Nat) (q : Nat), (∀ d ∈ l, d < B) → l.getD q 0 = vB B l / B ^ q % B := by
 intro l
 induction l with
 | nil => intro q _; simp [vB]
 | cons d l ih =>
  intro q h
  have h1 := h d (by simp)
  cases q with
  | zero => simp only [List.getD_cons_zero, vB, Nat.pow_zero, Nat.div_one]; rw [Nat.add_mul_mod_self_left, Nat.mod_eq_of_lt h1]
  | succ q =>
   rw [List.getD_cons_succ, ih q fun x hx => h x (by simp [hx]), Nat.pow_succ, Nat.mul_comm (B ^ q) B, ← Nat.div_div_eq_div_mul]
   simp only [vB]
   rw [Nat.add_mul_div_left _ _ hB, Nat.div_eq_of_lt h1, Nat.zero_add]
theorem digit_in_word (B X r n : Nat) (hr : r < n) : X % B ^ n / B ^ r % B = X / B ^ r % B := by
 obtain ⟨k, rfl⟩ : ∃ k, n = r + (k + 1) := ⟨n - r - 1, by omega⟩
 rw [Nat.pow_add, Nat.mod_mul_right_div_self, Nat.mod_mod_of_dvd _ ⟨B ^ k, by rw [Nat.pow_succ, Nat.mul_comm]⟩]
end Go.Proofs.YtlhmjhildlnokaaGreat
namespace Go.Proofs.YtlhmjhildlnokaaGreat
set_option linter.unusedVariables false
set_option linter.unusedSimpArgs false
open Go.RowKit
def wB : Nat := 18446744073709551616
def wl (l : List Nat) : List Value := l.map fun (d : Nat) => Value.int .u64 (d : Int)
theorem wl_length (l : List Nat) : (wl l).length = l.length := by simp [wl]
theorem wl_set (l : List Nat) (k v : Nat) : (wl l).set k (.int .u64 (v : Int)) = wl (l.set k v) := by simp [wl, List.map_set]
theorem wl_get {l : List Nat} {j : Nat} (h : j < l.length) : (wl l)[j]? = some (Value.int .u64 ((l.getD j 0 : Nat) : Int)) := by simp [wl, h]
theorem wl_one (l : List Nat) : (wl l).all (·.oneCell') = true := by simp [wl, Value.oneCell']
def WB (l : List Nat) : Prop := ∀ d ∈ l, d < wB
theorem WB.get {l : List Nat} (h : WB l) (j : Nat) : l.getD j 0 < 18446744073709551616 := by
 by_cases hj : j < l.length
 ·rw [List.getD_eq_getElem?_getD, List.getElem?_eq_getElem hj]; exact h _ (List.getElem_mem hj)
 ·rw [List.getD_eq_getElem?_getD, List.getElem?_eq_none (by omega)]; simp
theorem WB.set {l : List Nat} (h : WB l) (k v : Nat) (hv : v < 18446744073709551616) : WB (l.set k v) := fun d hd => by
 rcases List.mem_or_eq_of_mem_set hd with h' | h'
 ·exact h d h'
 ·rw [h']; exact hv
def Up0 (l : List Nat) (k : Nat) : Prop := ∀ q, k ≤ q → l.getD q 0 = 0
theorem Up0.set {l : List Nat} {k q v : Nat} (h : Up0 l k) (hq : q < k) : Up0 (l.set q v) k := fun r hr => by
 have := h r hr
 rw [List.getD_eq_getElem?_getD] at this ⊢
 rw [List.getElem?_set_ne (by omega)]
 exact this
theorem ref03mx1 {P Q : Prop} (k : Q) (h : Hold Q → P := by (intro kk; guard_target = wpList _ _ _ (Oper.mk _ (.call { callee := .builtin .append, args := _, argTypes := _ }) _ _ _ _ :: _) _ _; (with_reducible refine BigFrame.wpList_want ?_ (fun K hK => ?_)); exact rfl; refine o_append (row := ?_) (n := ?_) (xs := ?_) (l' := ?_) Tryz.infoInt rfl rfl rfl H ?_ rfl ?_ ?_ (by kernel_rfl) rfl (by decide) ?_ ?_ ?_ (fun v2 w3 H2 hn => hK _ _ ?_); rotate_left 4; (repeat first | exact .head _ | apply List.Mem.tail); (focus (simp; done)); (focus (intro _; (exact r1))); exact rfl; exact (by unfold maxLen; omega); exact (by omega); clear hK K hn; simp only [List.take_succ_cons, List.take_zero, Nat.one_mul] at H2; (obtain ⟨A9, c9, rfl⟩ := H2.growForm (v := v2) (by repeat first | exact .head _ | apply List.Mem.tail)); simp only [Act.put, List.setIfInBounds_toArray, List.set_cons_succ, List.set_cons_zero, X0, X1, X2, X3]; revert H2; revert w3; revert c9; revert A9; exact kk.out)) : P := h ⟨k⟩
theorem iV_wl (x : Int) (hx : R256 x) : ∃ ws : List Nat, ws.length = 4 ∧ WB ws ∧ iV x = .agg (wl ws).toArray ∧ decide (9223372036854775808 ≤ ws.getD 3 0) = decide (x < 0) ∧ (vB wB ws : Int) = if x < 0 then x + 115792089237316195423570985008687907853269984665640564039457584007913129639936 else x := by
 obtain ⟨a, b, c, d, ha, hb, hc, hd, hxx, eX⟩ := iV_words x hx
 have hn := sv_neg ha hb hc hd
 rw [hxx] at hn
 have q : ∀ z : Int, Wd z → ∃ n : Nat, z = (n : Int) ∧ n < wB := fun z hz => ⟨z.toNat, by unfold Wd at hz; omega, by unfold Wd at hz; unfold wB; omega⟩
 obtain ⟨a, rfl, qa⟩ := q a ha
 obtain ⟨b, rfl, qb⟩ := q b hb
 obtain ⟨c, rfl, qc⟩ := q c hc
 obtain ⟨d, rfl, qd⟩ := q d hd
 refine ⟨[a, b, c, d], rfl, by intro z hz; simp at hz; rcases hz with rfl | rfl | rfl | rfl <;> assumption, eX, ?_, ?_⟩
 ·rw [← hn]; unfold ngB
  show decide (9223372036854775808 ≤ d) = _
  rw [decide_eq_decide]; omega
 ·have hn' : (9223372036854775808 ≤ (d : Int)) ↔ x < 0 := by unfold ngB at hn; rwa [decide_eq_decide] at hn
  unfold sv at hxx
  simp only [vB, wB]
  by_cases h : x < 0
  ·rw [if_pos h]; rw [if_pos (hn'.2 h)] at hxx; omega
  ·rw [if_neg h]; rw [if_neg (fun h' => h (hn'.1 h'))] at hxx; omega
def stW (ws : List Nat) (i : Nat) : List Nat := (List.range 4).map fun q => ws.getD q 0 / 65536 ^ (min 4 (i - 4 * q))
theorem stW_length (ws : List Nat) (i : Nat) : (stW ws i).length = 4 := by simp [stW]
theorem stW_zero (ws : List Nat) (h : ws.length = 4) : stW ws 0 = ws := by
 match ws, h with
 | [a, b, c, d], _ => simp [stW, List.range_succ]
theorem stW_get (ws : List Nat) (q r : Nat) (hq : q < 4) (hr : r < 4) : (stW ws (4 * q + r)).getD q 0 = ws.getD q 0 / 65536 ^ r := by
 unfold stW
 rw [List.getD_eq_getElem?_getD]
 simp only [List.getElem?_map, List.getElem?_range hq, Option.map_some, Option.getD_some]
 congr 2; omega
theorem stW_set (ws : List Nat) (q r : Nat) (hq : q < 4) (hr : r < 4) : (stW ws (4 * q + r)).set q (ws.getD q 0 / 65536 ^ r / 65536) = stW ws (4 * q + r + 1) := by
 apply List.ext_getElem?
 intro j
 by_cases hj : j < 4
 ·by_cases hjq : q = j
  ·subst hjq
   rw [List.getElem?_set_self (by rw [stW_length]; exact hj)]
   unfold stW
   simp only [List.getElem?_map, List.getElem?_range hj, Option.map_some]
   rw [Nat.div_div_eq_div_mul, ← Nat.pow_succ]
   congr 3; omega
  ·rw [List.getElem?_set_ne hjq]
   unfold stW
   simp only [List.getElem?_map, List.getElem?_range hj, Option.map_some]
   congr 3; omega
 ·rw [List.getElem?_eq_none (by simp [stW]; omega), List.getElem?_eq_none (by simp [stW]; omega)]
theorem word_digit (ws : List Nat) (hw : WB ws) (q r : Nat) (hr : r < 4) : ws.getD q 0 / 65536 ^ r % 65536 = vB wB ws / 65536 ^ (4 * q + r) % 65536 := by
 rw [vB_digit wB (by unfold wB; omega) ws q hw]
 have e : wB = 65536 ^ 4 := by unfold wB; rfl
 rw [e, digit_in_word _ _ _ _ hr, ← Nat.pow_mul, Nat.div_div_eq_div_mul, ← Nat.pow_add]
def FromInv (s : Bool) (u i : Nat) (l : List Nat) (c : Nat) : Prop :=
 Dg l ∧ l.length = i ∧ c ≤ 1 ∧ if s = true then val l + 65536 ^ i * c + u % 65536 ^ i = 65536 ^ i else val l = u % 65536 ^ i
theorem FromInv.start (s : Bool) (u : Nat) : FromInv s u 0 [] 1 := ⟨Dg.nil, rfl, Nat.le_refl _, by cases s <;> simp [val, Nat.mod_one]⟩
theorem FromInv.pos {u i c d : Nat} {l : List Nat} (h : FromInv false u i l c) (hd : u / 65536 ^ i % 65536 = d) : FromInv false u (i + 1) (l ++ [d]) c := by
 obtain ⟨h1, h2, h3, h4⟩ := h
 simp only [Bool.false_eq_true, if_false] at h4
 have hb : d < 65536 := by omega
 refine ⟨h1.snoc hb, by simp [h2], h3, ?_⟩
 simp only [Bool.false_eq_true, if_false]
 rw [val_snoc, h2, h4, Nat.pow_succ, Nat.mod_mul, hd]
theorem FromInv.neg {u i c d e : Nat} {l : List Nat} (h : FromInv true u i l c) (hd : u / 65536 ^ i % 65536 = d) (he : e + d = 65535 + c) : FromInv true u (i + 1) (l ++ [e % 65536]) (e / 65536) := by
 obtain ⟨h1, h2, h3, h4⟩ := h
 simp only [if_true] at h4
 have hb : d < 65536 := by omega
 refine ⟨h1.snoc (by omega), by simp [h2], by omega, ?_⟩
 simp only [if_true]
 rw [val_snoc, h2, Nat.pow_succ, Nat.mod_mul, hd]
 have h5 : 65536 ^ i * (e % 65536) + 65536 ^ i * 65536 * (e / 65536) = 65536 ^ i * e := by
  rw [Nat.mul_assoc, ← Nat.mul_add]; congr 1; omega
 have h6 : 65536 ^ i * e + 65536 ^ i * d = 65536 ^ i * 65535 + 65536 ^ i * c := by rw [← Nat.mul_add, he, Nat.mul_add]
 have h7 : 65536 ^ i * 65536 = 65536 ^ i * 65535 + 65536 ^ i := by rw [← Nat.mul_succ]
 omega
theorem FromInv.done {x : Int} {u c : Nat} {l : List Nat} (hx : R256 x) (h : FromInv (decide (x < 0)) u 16 l c) (hu : (u : Int) = if x < 0 then x + 115792089237316195423570985008687907853269984665640564039457584007913129639936 else x) : sgn (decide (x < 0)) (val l) = x := by
 obtain ⟨h1, h2, h3, h4⟩ := h
 have e : (65536 : Nat) ^ 16 = 115792089237316195423570985008687907853269984665640564039457584007913129639936 := by decide
 have hl := val_lt h1
 rw [h2, e] at hl
 rw [e] at h4
 unfold R256 at hx
 by_cases hn : x < 0
 ·simp only [hn, decide_true, if_true] at h4 hu
  unfold sgn
  simp only [hn, decide_true, if_true]
  rw [Nat.mod_eq_of_lt (by omega)] at h4
  have : c = 0 := by
   rcases Nat.lt_or_ge 0 c with h | h
   ·have : c = 1 := by omega
    subst this; omega
   ·omega
  subst this
  omega
 ·simp only [hn, decide_false, Bool.false_eq_true, if_false] at h4 hu
  unfold sgn
  simp only [hn, decide_false, Bool.false_eq_true, if_false]
  rw [Nat.mod_eq_of_lt (by omega)] at h4
  omega
def FromRel (w : World) (d1 d2 d3 : Nat) (s : Bool) (ws : List Nat) (k : Nat) (cy i : Value) (wr : World) : Prop :=
 ∃ (j c : Nat) (l : List Nat) (A : Option Addr) (cp : Nat), j + k = 16 ∧ i = .int .i64 (j : Int) ∧ cy = .int .i64 (c : Int) ∧ FromInv s (vB wB ws) j l c ∧
  Own w.heap.size w wr [.grow 3 1 (.slice A j cp) j (dl l), .cells d3 [.bool s, .slice A j cp], .cells d2 [.bool false, .slice none 0 0], .cells d1 (wl (stW ws j))]
set_option maxRecDepth 100000 in
set_option maxHeartbeats 8000000 in
theorem refFrom_any (F : Nat → Prop) (w : World) (hF : ∀ k, F k → k < w.heap.size) (x : Int) (hx : R256 x) :
  Calls Tryz.prog 89 #[iV x] w (RetN F w x) := by
 obtain ⟨ws, h4, hw, eX, hneg, hu⟩ := iV_wl x hx
 have hdone := fun (c : Nat) (l : List Nat) (h : FromInv (decide (x < 0)) (vB wB ws) 16 l c) => h.done hx hu
 rw [eX]
 obtain ⟨s, hs⟩ : ∃ s, decide (x < 0) = s := ⟨_, rfl⟩
 rw [hs] at hneg hdone
 have H := Own.start w
 have H4 := Lib.hid h4
 have wlen : (wl ws).length = 4 := by rw [wl_length, h4]
 have b3 := hw.get 3
 obtain ⟨g3, hg3⟩ : ∃ g, ws.getD 3 0 = g := ⟨_, rfl⟩
 rw [hg3] at hneg b3
 have k3 : (wl ws)[3]? = some (.int .u64 (g3 : Int)) := by rw [wl_get (by rw [h4]; omega), hg3]
 have hneg2 : decide ((9223372036854775808 : Int) ≤ (g3 : Int)) = s := by rw [← hneg]; rw [decide_eq_decide]; omega
 clear h4 hneg hs hg3 eX
 have HU := Lib.hid hu
 clear hu
 go_enter Tryz.func89, Tryz.ntmps89
 have tk0 : True := trivial
 have tk1 : True := trivial
 have tk2 : True := trivial
 have X0 := @wlen
 have X1 := @zz
 have X2 := @zz
 have X3 := @zz
 go_wp2_with (guard_target = wpList _ _ _ (_ :: _) _ _; (first | (refine a2601604 ?_) | (refine a218e51a ?_; clear H; (try clear w2); intro w2 H) | (refine a141a087 ?_; intro b2; clear H; (try clear w2); intro w2 H; (first | (clear tk0; rename Nat => d1) | (clear tk1; rename Nat => d2) | (clear tk2; rename Nat => d3)))))
 go_loopg [4, 5] 16 (FromRel w d1 d2 d3 s ws)
 case atStart =>
  refine ⟨0, 1, [], none, 0, Nat.zero_add _, rfl, rfl, FromInv.start _ _, ?_⟩
  rw [stW_zero ws H4.out]
  exact H.grow_nil 3 1
 case round =>
  clear H
  obtain ⟨j, c, l, A, cp, hk, rfl, rfl, hinv, H⟩ := hrel
  by_cases h0 : j < 16
  ·have hq : j / 4 < 4 := by omega
   have hr : j % 4 < 4 := by omega
   have hj : 4 * (j / 4) + j % 4 = j := by omega
   obtain ⟨g, hg⟩ : ∃ g, ws.getD (j / 4) 0 / 65536 ^ (j % 4) = g := ⟨_, rfl⟩
   obtain ⟨d, hd0⟩ : ∃ d, g % 65536 = d := ⟨_, rfl⟩
   have hd := word_digit ws hw (j / 4) (j % 4) hr
   rw [hg, hd0, hj] at hd
   have bg : g < 18446744073709551616 := by rw [← hg]; exact Nat.lt_of_le_of_lt (Nat.div_le_self _ _) (hw.get _)
   have bd : d < 65536 := by omega
   have hset := stW_set ws (j / 4) (j % 4) hq hr
   rw [hg, hj] at hset
   have HINV := Lib.hid hinv
   have hc := hinv.2.2.1
   have HDG := Lib.hid hd.symm
   have HSET := Lib.hid hset
   have ed : (g : Int) % 65536 = (d : Int) := by omega
   have slen : (wl (stW ws j)).length = 4 := by rw [wl_length, stW_length]
   have ld : (Res.cells d1 (wl (stW ws j))).at d1 (j / 4) [.int .u64 (g : Int)] := at_cells (by
    have h := stW_get ws (j / 4) (j % 4) hq hr
    rw [hj, hg] at h
    rw [wl_get (by rw [stW_length]; omega), h])
   have hjl := Lib.hid hj
   clear hj hr
   clear hg hd0 hd hset hinv
   cases s with
   | true =>
    have tk0 : True := trivial
    have X0 := @slen
    have X1 := @ed
    have X2 := @zz
    have X3 := @zz
    go_wp2_with (guard_target = wpList _ _ _ (_ :: _) _ _; (first | (refine ref03mx1 ?_; intro Ag cg; clear H; (try clear w2); intro w2 H) | (refine a2601604 ?_) | (refine a218e51a ?_; clear H; (try clear w2); intro w2 H) | (refine a141a087 ?_; intro b2; clear H; (try clear w2); intro w2 H; (clear tk0; rename Nat => b6))))
    obtain ⟨e, he⟩ : ∃ e, e = 65535 - d + c := ⟨_, rfl⟩
    have e1 : (65535 - (d : Int) + (c : Int)) % 65536 = ((e % 65536 : Nat) : Int) := by omega
    have e2 : (g : Int) / 65536 = ((g / 65536 : Nat) : Int) := by omega
    rw [e1, e2, wl_set, HSET.out] at H
    go_roundg (16 - (j + 1))
    case rel =>
     refine ⟨j + 1, e / 65536, l ++ [e % 65536], Ag, cg, by omega, by congr 1, by congr 1; omega, HINV.out.neg HDG.out (by omega), ?_⟩
     rw [dl_append]
     exact H.tail
    case measure => omega
   | false =>
    have tk0 : True := trivial
    have X0 := @slen
    have X1 := @ed
    have X2 := @zz
    have X3 := @zz
    go_wp2_with (guard_target = wpList _ _ _ (_ :: _) _ _; (first | (refine ref03mx1 ?_; intro Ag cg; clear H; (try clear w2); intro w2 H) | (refine a2601604 ?_) | (refine a218e51a ?_; clear H; (try clear w2); intro w2 H) | (refine a141a087 ?_; intro b2; clear H; (try clear w2); intro w2 H; (clear tk0; rename Nat => b6))))
    have e2 : (g : Int) / 65536 = ((g / 65536 : Nat) : Int) := by omega
    rw [e2, wl_set, HSET.out] at H
    go_roundg (16 - (j + 1))
    case rel =>
     refine ⟨j + 1, c, l ++ [d], Ag, cg, by omega, by congr 1, rfl, HINV.out.pos HDG.out, ?_⟩
     rw [dl_append]
     exact H.tail
    case measure => omega
  ·obtain rfl : j = 16 := by omega
   have hz := hdone c l hinv
   obtain ⟨gl, hl, _, _⟩ := hinv
   obtain ⟨A', b', cp', hv, hc1, hc2, H, hB⟩ := H.growRd
   obtain ⟨rfl, rfl⟩ : A = A' ∧ cp = cp' := by injection hv with h1 h2 h3; exact ⟨h1, h3⟩
   have fb : 0 < (dl l).length → ¬ F b' := fun h hf => by have := hB h; have := hF _ hf; omega
   have HT : ∀ (F : Nat → Prop) (w : World) (hF : ∀ k, F k → k < w.heap.size) (A : Option Addr) (ha : Sl F w A (dl l)), Calls Tryz.prog 88 #[.agg #[.bool s, .slice A 16 cp]] w (RetN F w x) := by
    intro F w hF A ha
    have h := trim_any F w hF s A cp l ha gl (by omega) (by omega) hc2
    rw [hl, hz] at h
    exact h
   have e16 : ((16 : Nat) : Int) = 16 := rfl
   rw [e16]
   clear hz hl hv e16
   go_wp2_with (first
    | (go_at_call 88; (with_reducible refine (HT (FW F _) _ (H.fw_lt rfl hF) _ (H.giveRd m0 fb)).mono ?_); rintro e w3 ⟨A3, c3, l3, rfl, hb, s3, g4, q3, p3⟩; replace H := H.ext hb; clear hb; obtain ⟨b3, o3, H4, f3⟩ := H.addSl s3; clear H s3; have H := H4; clear H4; dsimp only)
    | (guard_target = wpList _ _ _ (_ :: _) _ _; (first | (refine a15dc6b3 ?_) | (refine a181aa22 ?_; clear H; (try clear w2); intro w2 H))))
   have hr := H.loadVarN (P := Tryz.prog) (ty := 124) (b := d2) (by exact m3) (by simp) (by simp)
   exact bodyPost_ret (v := .agg #[.bool (decide (x < 0)), .slice A3 l3.length c3]) (by simp [results, Tryz.results89, asAddr, hr]) rfl ⟨A3, c3, l3, rfl, H.below, (H.giveRd m0 f3).fw, g4, q3, p3⟩
end Go.Proofs.YtlhmjhildlnokaaGreat
namespace Go.Proofs.YtlhmjhildlnokaaGreat
theorem val_vB : ∀ l : List Nat, vB 65536 l = val l := by
 intro l
 induction l with
 | nil => rfl
 | cons d l ih => simp [vB, val, ih]
theorem CnI.nat {l : List Nat} {z : Int} (h : CnI l z) : CnI l (z.natAbs : Int) := ⟨h.1, h.2.1, by rw [h.2.2, Int.natAbs_natCast]⟩
end Go.Proofs.YtlhmjhildlnokaaGreat
