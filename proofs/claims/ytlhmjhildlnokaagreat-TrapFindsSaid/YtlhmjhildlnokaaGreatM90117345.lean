/-
  The walks of the document's layer 3: quotients.
-/
import Derived.Test.YtlhmjhildlnokaaGreatMd6b25c4b
import Derived.Test.YtlhmjhildlnokaaGreatM6c9709ae
import Derived.Test.YtlhmjhildlnokaaGreatM808c9093
import Derived.Test.YtlhmjhildlnokaaGreatM0d4adf42
namespace Go.Proofs.YtlhmjhildlnokaaGreat
set_option linter.unusedVariables false
set_option linter.unusedSimpArgs false
open Go.RowKit
theorem ref03cx1 {P Q : Prop} (k : Q) (h : Hold Q → P := by (intro kk; guard_target = wpList _ _ _ (Oper.mk _ (.call { callee := .builtin .append, args := _, argTypes := _ }) _ _ _ _ :: _) _ _; (with_reducible refine BigFrame.wpList_want ?_ (fun K hK => ?_)); exact rfl; refine o_append (row := ?_) (n := ?_) (xs := ?_) (l' := ?_) Tryz.infoInt rfl rfl rfl H ?_ rfl ?_ ?_ (by kernel_rfl) rfl (by decide) ?_ ?_ ?_ (fun v2 w3 H2 hn => hK _ _ ?_); rotate_left 4; (repeat first | exact .head _ | apply List.Mem.tail); (focus (simp; done)); (focus (intro _; (exact r1))); exact rfl; exact (by unfold maxLen; omega); exact (by omega); clear hK K hn; simp only [List.take_succ_cons, List.take_zero, Nat.one_mul] at H2; simp only [Act.put, List.setIfInBounds_toArray, List.set_cons_succ, List.set_cons_zero]; revert H2; revert w3; revert v2; exact kk.out)) : P := h ⟨k⟩
theorem ref03cr1 {P Q : Prop} (k : Q) (h : Hold Q → InR 8 0 (.q 0 (.q 1 (.q 2 (.q 3 (.q 4 (.q 5 (.q 6 (.q 7 (.q 8 .nil))))))))) P := by exact aR0) : P := h ⟨k⟩
theorem ref03cr2 {P Q : Prop} (k : Q) (h : Hold Q → InR 10 0 (.q 0 (.q 1 (.q 2 (.q 3 (.q 4 (.q 5 (.q 6 (.q 7 (.q 8 .nil))))))))) P := by exact aR0) : P := h ⟨k⟩
def SizeRel (w : World) (A1 A2 : Option Addr) (b1 o1 b2 o2 : Nat) (a b : List Nat) (k : Nat) (i : Value) (wr : World) : Prop :=
 k ≤ a.length ∧ i = .int .i64 ((k : Int) - 1) ∧ a.drop k = b.drop k ∧ Own w.heap.size w wr [.rd A1 b1 o1 (dl a), .rd A2 b2 o2 (dl b)]
set_option maxRecDepth 100000 in
set_option maxHeartbeats 2000000 in
theorem size_any (F : Nat → Prop) (w : World) (hF : ∀ k, F k → k < w.heap.size) (A1 A2 : Option Addr) (c1 c2 : Nat) (a b : List Nat) (x y : Int) (ha : Sl F w A1 (dl a)) (hb : Sl F w A2 (dl b)) (ga : CnI a x) (gb : CnI b y) (la : a.length ≤ 1000) (lb : b.length ≤ 1000) :
  Calls Tryz.prog 87 #[.slice A1 a.length c1, .slice A2 b.length c2] w fun e w' => e = .returned (.int .i64 (cmpN x.natAbs y.natAbs)) ∧ Below w.heap.size w w' := by
 obtain ⟨b2, o2, H, f2⟩ := (Own.start w).addSl (hb.ro (by rfl))
 obtain ⟨b1, o1, H1, f1⟩ := H.addSl (ha.ro (by rfl))
 clear ha hb H
 rw [← ga.2.2, ← gb.2.2]
 by_cases hlen : a.length = b.length
 ·have hl1 : decide (a.length = b.length) = true := by simpa using hlen
  have hl2 : ((a.length : Int) == (b.length : Int)) = true := by simp only [beq_iff_eq]; omega
  have hl3 : ((a.length : Int) != (b.length : Int)) = false := by simp only [bne_eq_false_iff_eq]; omega
  have HL := Lib.hid hlen
  clear hlen hl1
  have H := H1
  clear H1
  go_enter Tryz.func87, Tryz.ntmps87
  go_wp2_with (first | fail)
  clear hl2 hl3
  go_loopg [5] a.length (SizeRel w A1 A2 b1 o1 b2 o2 a b)
  case atStart => exact ⟨Nat.le_refl _, rfl, by rw [List.drop_length, HL.out, List.drop_length], H⟩
  case round =>
   clear H
   obtain ⟨hk, rfl, hd, H⟩ := hrel
   have HD := Lib.hid hd
   clear hd
   by_cases h0 : 0 < gk
   ·obtain ⟨j, rfl⟩ : ∃ j, gk = j + 1 := ⟨gk - 1, by omega⟩
    have e1 : ((j + 1 : Nat) : Int) - 1 = (j : Int) := by omega
    rw [e1]
    clear e1
    have hja : j < a.length := by omega
    have hjb : j < b.length := by have := HL.out; omega
    obtain rfl := H.rdAddr m0 (by rw [dl_length]; omega)
    obtain rfl := H.rdAddr m1 (by rw [dl_length]; omega)
    obtain ⟨x, hx, bx, tx⟩ := dig_at hja ga.1
    obtain ⟨y, hy, by_, ty⟩ := dig_at hjb gb.1
    replace tx := tx (some ⟨b1, o1, none⟩) b1 o1
    replace ty := ty (some ⟨b2, o2, none⟩) b2 o2
    by_cases hlt : x < y
    ·go_wp2_with (first
      | (guard_target = Code.wp _ (Code.region 8 _ true) _ _ _; refine ref03cr1 ?_; clear H; (try clear w2); intro w2 H)
      | ((first | guard_target = wpList _ _ _ (_ :: _) _ _ | guard_target = wpTree _ _ _ _ _ _ _); (first | (refine aa335462 ?_) | (guard_target = wpTree _ _ _ Tr.nil _ _ _; refine tree_nil ?_))))
     go_ret
     refine ⟨?_, H.below⟩
     have := val_lt_of ga.1 HD.out hx.out hy.out hlt
     unfold cmpN
     rw [if_pos this]
     rfl
    ·by_cases hgt : y < x
     ·go_wp2_with (first
       | (guard_target = Code.wp _ (Code.region 8 _ true) _ _ _; refine ref03cr1 ?_; clear H; (try clear w2); intro w2 H)
       | (guard_target = Code.wp _ (Code.region 10 _ true) _ _ _; refine ref03cr2 ?_; clear H; (try clear w2); intro w2 H)
       | ((first | guard_target = wpList _ _ _ (_ :: _) _ _ | guard_target = wpTree _ _ _ _ _ _ _); (first | (refine aa335462 ?_) | (guard_target = wpTree _ _ _ Tr.nil _ _ _; refine tree_nil ?_))))
      go_ret
      refine ⟨?_, H.below⟩
      have := val_lt_of gb.1 HD.out.symm hy.out hx.out hgt
      unfold cmpN
      rw [if_neg (by omega), if_pos this]
      rfl
     ·go_wp2_with (first
       | (guard_target = Code.wp _ (Code.region 8 _ true) _ _ _; refine ref03cr1 ?_; clear H; (try clear w2); intro w2 H)
       | (guard_target = Code.wp _ (Code.region 10 _ true) _ _ _; refine ref03cr2 ?_; clear H; (try clear w2); intro w2 H)
       | ((first | guard_target = wpList _ _ _ (_ :: _) _ _ | guard_target = wpTree _ _ _ _ _ _ _); (first | (refine aa335462 ?_) | (guard_target = wpTree _ _ _ Tr.nil _ _ _; refine tree_nil ?_))))
      go_roundg j
      case rel =>
       refine ⟨by omega, rfl, drop_eq_succ HD.out hja hjb ?_, H⟩
       rw [hx.out, hy.out]; omega
      case measure => omega
   ·obtain rfl : gk = 0 := by omega
    have e1 : ((0 : Nat) : Int) - 1 = -1 := rfl
    rw [e1]
    go_wp2_with (first | fail)
    go_ret
    refine ⟨?_, H.below⟩
    have := HD.out
    simp only [List.drop_zero] at this
    rw [this]
    unfold cmpN
    rw [if_neg (by omega), if_neg (by omega)]
    rfl
 ·have hl2 : ((a.length : Int) == (b.length : Int)) = false := by simp only [beq_eq_false_iff_ne, ne_eq]; omega
  have hl3 : ((a.length : Int) != (b.length : Int)) = true := by simp only [bne_iff_ne, ne_eq]; omega
  have H := H1
  clear H1
  by_cases hlt : a.length < b.length
  ·have hv := len_val ga gb hlt
   have hr : cmpN (val a) (val b) = -1 := by unfold cmpN; rw [if_pos hv]
   rw [hr]
   clear hv hr hlen
   go_enter Tryz.func87, Tryz.ntmps87
   go_wp2_with (first | fail)
   go_ret
   exact ⟨rfl, H.below⟩
  ·have hv := len_val gb ga (by omega)
   have hr : cmpN (val a) (val b) = 1 := by unfold cmpN; rw [if_neg (by omega), if_pos hv]
   rw [hr]
   clear hv hr
   go_enter Tryz.func87, Tryz.ntmps87
   go_wp2_with (first | fail)
   go_ret
   exact ⟨rfl, H.below⟩
def MinusRel (F : Nat → Prop) (w : World) (A1 A2 : Option Addr) (b1 o1 b2 o2 : Nat) (a b : List Nat) (k : Nat) (out cy i : Value) (wr : World) : Prop :=
 ∃ l c, k + l.length = a.length ∧ i = .int .i64 (l.length : Int) ∧ cy = .int .i64 ((c : Nat) : Int) ∧ c ≤ 1 ∧ Dg l ∧ val l + val (b.take l.length) = val (a.take l.length) + 65536 ^ l.length * c ∧
  Own w.heap.size w wr [.grow 3 1 out l.length (dl l), .rd A1 b1 o1 (dl a), .rd A2 b2 o2 (dl b)]
theorem minus_close {F : Nat → Prop} {w w2 : World} {A1 A2 : Option Addr} {b1 o1 b2 o2 : Nat} {a b l : List Nat} {gk c d e x y : Nat} {v2 : Value} {e1 e3 : Int} {cv : Value} {r0 : Res}
  (hk : gk + l.length = a.length) (gl : Dg l) (hv : val l + val (b.take l.length) = val (a.take l.length) + 65536 ^ l.length * c) (h0 : 0 < gk)
  (hx : a.getD l.length 0 = x) (hy : b.getD l.length 0 = y) (hd : d + y + c = x + 65536 * e) (bd : d < 65536) (be : e ≤ 1) (q1 : e1 = (d : Int)) (q2 : cv = .int .i64 ((e : Nat) : Int)) (q3 : e3 = (l.length : Int) + 1)
  (H : Own w.heap.size w w2 [r0, .grow 3 1 v2 (l.length + 1) (dl l ++ [.int .i64 e1]), .rd A1 b1 o1 (dl a), .rd A2 b2 o2 (dl b)]) :
  MinusRel F w A1 A2 b1 o1 b2 o2 a b (gk - 1) v2 cv (.int .i64 e3) w2 := by
 refine ⟨l ++ [d], e, by simp; omega, by rw [q3]; simp, q2, be, gl.snoc bd, ?_, ?_⟩
 ·rw [List.length_append]
  exact minus_step a b l l.length c d e x y rfl hv hx hy hd
 ·have := H.tail
  rw [List.length_append, dl_append]
  rw [q1] at this
  exact this
set_option maxRecDepth 100000 in
set_option maxHeartbeats 4000000 in
theorem minus_any (F : Nat → Prop) (w : World) (hF : ∀ k, F k → k < w.heap.size) (A1 A2 : Option Addr) (c1 c2 : Nat) (a b : List Nat) (ha : Sl F w A1 (dl a)) (hb : Sl F w A2 (dl b)) (ga : Dg a) (gb : Dg b) (la : a.length ≤ 1000) (lb : b.length ≤ a.length) (hle : val b ≤ val a) :
  Calls Tryz.prog 105 #[.slice A1 a.length c1, .slice A2 b.length c2] w (RetD F w (val a - val b) a.length) := by
 have HLE := Lib.hid hle
 clear hle
 obtain ⟨b2, o2, H, f2⟩ := (Own.start w).addSl (hb.ro (by rfl))
 obtain ⟨b1, o1, H1, f1⟩ := H.addSl (ha.ro (by rfl))
 clear ha hb H
 go_enter Tryz.func105, Tryz.ntmps105
 go_wp2
 go_loopg [5, 6, 7] a.length (MinusRel F w A1 A2 b1 o1 b2 o2 a b)
 case atStart =>
  exact ⟨[], 0, by simp, rfl, rfl, by omega, Dg.nil, by simp [val], H1.grow_nil _ 1⟩
 case round =>
  clear H1
  obtain ⟨l, c, hk, rfl, rfl, hc, gl, gv, H⟩ := hrel
  have hv := Lib.hid gv
  clear gv
  by_cases h0 : 0 < gk
  ·have h1 : l.length < a.length := by omega
   obtain rfl := H.rdAddr m1 (by rw [dl_length]; omega)
   obtain ⟨x, hx, bx, tx⟩ := dig_at h1 ga
   replace tx := tx (some ⟨b1, o1, none⟩) b1 o1
   by_cases h2 : l.length < b.length
   ·obtain rfl := H.rdAddr m2 (by rw [dl_length]; omega)
    obtain ⟨y, hy, by_, ty⟩ := dig_at h2 gb
    replace ty := ty (some ⟨b2, o2, none⟩) b2 o2
    by_cases hn : x < c + y
    ·have hn' : (x : Int) - c - y < 0 := by omega
     go_wp2_with (guard_target = wpList _ _ _ (_ :: _) _ _; (first | (refine ref03cx1 ?_; intro v2; clear H; (try clear w2); intro w2 H) | (refine a15dc6b3 ?_) | (refine a9475ade ?_; intro b2; clear H; (try clear w2); intro w2 H)))
     go_roundg (gk - 1)
     case rel => exact minus_close (d := (x + 65536 - c - y)) (e := 1) hk gl hv.out h0 hx.out hy.out (by omega) (by omega) (by omega) (by omega) rfl (by omega) H
     case measure => omega
    ·have hn' : ¬ (x : Int) - c - y < 0 := by omega
     go_wp2_with (guard_target = wpList _ _ _ (_ :: _) _ _; (first | (refine ref03cx1 ?_; intro v2; clear H; (try clear w2); intro w2 H) | (refine a15dc6b3 ?_) | (refine a9475ade ?_; intro b2; clear H; (try clear w2); intro w2 H)))
     go_roundg (gk - 1)
     case rel => exact minus_close (d := (x - c - y)) (e := 0) hk gl hv.out h0 hx.out hy.out (by omega) (by omega) (by omega) (by omega) rfl (by omega) H
     case measure => omega
   ·by_cases hn : x < c
    ·have hn' : (x : Int) - c < 0 := by omega
     go_wp2_with (guard_target = wpList _ _ _ (_ :: _) _ _; (first | (refine ref03cx1 ?_; intro v2; clear H; (try clear w2); intro w2 H) | (refine a15dc6b3 ?_) | (refine a9475ade ?_; intro b2; clear H; (try clear w2); intro w2 H)))
     go_roundg (gk - 1)
     case rel => exact minus_close (d := (x + 65536 - c - 0)) (e := 1) hk gl hv.out h0 hx.out (getD_past h2) (by omega) (by omega) (by omega) (by omega) rfl (by omega) H
     case measure => omega
    ·have hn' : ¬ (x : Int) - c < 0 := by omega
     go_wp2_with (guard_target = wpList _ _ _ (_ :: _) _ _; (first | (refine ref03cx1 ?_; intro v2; clear H; (try clear w2); intro w2 H) | (refine a15dc6b3 ?_) | (refine a9475ade ?_; intro b2; clear H; (try clear w2); intro w2 H)))
     go_roundg (gk - 1)
     case rel => exact minus_close (d := (x - c - 0)) (e := 0) hk gl hv.out h0 hx.out (getD_past h2) (by omega) (by omega) (by omega) (by omega) rfl (by omega) H
     case measure => omega
  ·obtain rfl : gk = 0 := by omega
   have e1 : l.length = a.length := by omega
   go_wp2_with (first | fail)
   go_ret
   obtain ⟨A, cap, rfl, hcap, hmax, hs⟩ := H.giveGrow m0 hF
   refine ⟨A, cap, l, rfl, H.below, hs, gl, ?_, by omega, hcap, hmax⟩
   have h4 := hv.out
   rw [val_take_all a _ (by omega), val_take_all b _ (by omega)] at h4
   have h5 := val_lt gl
   have h6 := HLE.out
   have h7 : c = 0 := by
    rcases Nat.lt_or_ge 0 c with h | h
    ·have : c = 1 := by omega
     subst this
     omega
    ·omega
   subst h7
   omega
theorem ref03dr1 {P Q : Prop} (k : Q) (h : Hold Q → InR 2 1 (.q 0 (.q 1 (.q 2 (.q 3 (.q 4 (.q 5 (.e 6 (.q 7 (.e 8 (.e 9 .nil)))))))))) P := by exact aR) : P := h ⟨k⟩
theorem ref03dr2 {P Q : Prop} (k : Q) (h : Hold Q → InR 4 1 (.q 0 (.q 1 (.q 2 (.q 3 (.q 4 (.q 5 (.e 6 (.q 7 (.e 8 (.e 9 .nil)))))))))) P := by exact aR) : P := h ⟨k⟩
theorem ref03dr3 {P Q : Prop} (k : Q) (h : Hold Q → InR 5 1 (.q 0 (.q 1 (.q 2 (.q 3 (.q 4 (.q 5 (.e 6 (.q 7 (.e 8 (.e 9 .nil)))))))))) P := by exact aR) : P := h ⟨k⟩
theorem neg_plain {z : Int} {l : List Nat} (h : CnI l z) : sgn (!decide (z < 0)) (val l) = -z := by
 rw [h.2.2]; unfold sgn; split <;> simp_all <;> omega
set_option maxRecDepth 100000 in
set_option maxHeartbeats 2000000 in
theorem refNeg_any (F : Nat → Prop) (w : World) (hF : ∀ k, F k → k < w.heap.size) (A : Option Addr) (c : Nat) (l : List Nat) (z : Int) (ha : Sl F w A (dl l)) (g : CnI l z) (hl : l.length ≤ 1000) (hc : l.length ≤ c) (hm : c ≤ maxLen) :
  Calls Tryz.prog 86 #[.agg #[.bool (decide (z < 0)), .slice A l.length c]] w (RetN F w (-z)) := by
 have g1 := g.1
 obtain ⟨b1, o1, H, f1⟩ := (Own.start w).addSl (ha.ro (by rfl))
 clear ha
 obtain ⟨s, hs⟩ : ∃ s, decide (z < 0) = s := ⟨_, rfl⟩
 have hz := neg_plain g
 rw [hs] at hz ⊢
 rw [← hz]
 clear hz hs
 go_enter Tryz.func86, Tryz.ntmps86
 have tk0 : True := trivial
 have tk1 : True := trivial
 go_wp2_with (first
  | (go_at_call 88; (with_reducible refine (trim_any (FW F _) _ (H.fw_lt rfl hF) _ _ _ l (H.giveRd m2 f1) g1 hl hc hm).mono ?_); rintro e w3 ⟨A2, c2, l2, rfl, hb, s2, g2, k2, k3⟩; replace H := H.ext hb; clear hb; obtain ⟨b4, o4, H4, f4⟩ := H.addSl s2; clear H s2; have H := H4; clear H4; dsimp only; (skip))
  | ((guard_target = wpList _ _ _ (_ :: _) _ _); (first | (refine aa335462 ?_) | (refine a43dfdd6 ?_; clear H; (try clear w2); intro w2 H) | (refine a32a6bca ?_; intro b2; clear H; (try clear w2); intro w2 H; (first | (clear tk0; rename Nat => b2) | (clear tk1; rename Nat => b3))))))
 have hr := H.loadVarN (P := Tryz.prog) (ty := 124) m1 (by simp) (by simp)
 exact bodyPost_ret (v := .agg #[.bool (decide (sgn (!s) (val l) < 0)), .slice A2 l2.length c2]) (by simp [results, Tryz.results86, asAddr, hr]) rfl ⟨A2, c2, l2, rfl, H.below, (H.giveRd m0 f4).fw, g2, k2, k3⟩
theorem add_same {x y : Int} {a b : List Nat} (ga : CnI a x) (gb : CnI b y) (h : decide (x < 0) = decide (y < 0)) : sgn (decide (x < 0)) (val a + val b) = x + y := by
 rw [ga.2.2, gb.2.2]; unfold sgn
 by_cases hx : x < 0 <;> by_cases hy : y < 0 <;> simp [hx, hy] at h ⊢ <;> omega
theorem add_more {x y : Int} {a b : List Nat} (ga : CnI a x) (gb : CnI b y) (h : decide (x < 0) ≠ decide (y < 0)) (hle : val b ≤ val a) : sgn (decide (x < 0)) (val a - val b) = x + y := by
 rw [ga.2.2, gb.2.2] at *; unfold sgn
 by_cases hx : x < 0 <;> by_cases hy : y < 0 <;> simp [hx, hy] at h ⊢ <;> omega
theorem add_less {x y : Int} {a b : List Nat} (ga : CnI a x) (gb : CnI b y) (h : decide (x < 0) ≠ decide (y < 0)) (hle : val a ≤ val b) : sgn (decide (y < 0)) (val b - val a) = x + y := by
 rw [ga.2.2, gb.2.2] at *; unfold sgn
 by_cases hx : x < 0 <;> by_cases hy : y < 0 <;> simp [hx, hy] at h ⊢ <;> omega
theorem len_le_of_val {l m : List Nat} {x y : Int} (hl : CnI l x) (hm : CnI m y) (h : val l ≤ val m) : l.length ≤ m.length := by
 rcases Nat.lt_or_ge m.length l.length with h' | h'
 ·have := len_val hm hl h'; omega
 ·exact h'
set_option maxRecDepth 100000 in
set_option maxHeartbeats 4000000 in
theorem refAdd_any (F : Nat → Prop) (w : World) (hF : ∀ k, F k → k < w.heap.size) (A1 A2 : Option Addr) (c1 c2 : Nat) (a b : List Nat) (x y : Int) (ha : Sl F w A1 (dl a)) (hb : Sl F w A2 (dl b)) (ga : CnI a x) (gb : CnI b y) (la : a.length ≤ 900) (lb : b.length ≤ 900)
  (ma : a.length ≤ c1) (mb : b.length ≤ c2) :
  Calls Tryz.prog 85 #[.agg #[.bool (decide (x < 0)), .slice A1 a.length c1], .agg #[.bool (decide (y < 0)), .slice A2 b.length c2]] w (RetN F w (x + y)) := by
 obtain ⟨b2, o2, H2, f2⟩ := (Own.start w).addSl (hb.ro (by rfl))
 obtain ⟨b1, o1, H, f1⟩ := H2.addSl (ha.ro (by rfl))
 clear ha hb H2
 have ga1 := ga.1
 have gb1 := gb.1
 have A1' := @add_same x y a b ga gb
 have A2' := @add_more x y a b ga gb
 have A3' := @add_less x y a b ga gb
 have gav := ga.2.2
 have gbv := gb.2.2
 obtain ⟨s, hs⟩ : ∃ s, decide (x < 0) = s := ⟨_, rfl⟩
 obtain ⟨t, ht⟩ : ∃ t, decide (y < 0) = t := ⟨_, rfl⟩
 rw [hs, ht] at A1' A2' A3'
 rw [hs, ht]
 by_cases hst : s = t
 ·have hz := A1' hst
  rw [← hz]
  subst hst
  clear A1' A2' A3' hz hs ht gav gbv
  go_enter Tryz.func85, Tryz.ntmps85
  have tk0 : True := trivial
  have tk1 : True := trivial
  have tk2 : True := trivial
  go_wp2_with (first
   | (guard_target = Code.wp _ (Code.region 2 _ true) _ _ _; refine ref03dr1 ?_; clear H; (try clear w2); intro w2 H)
   | (go_at_call 104; (with_reducible refine (plus_any (FW F _) _ (H.fw_lt rfl hF) _ _ _ _ a b (H.giveRd m3 f1) (H.giveRd m4 f2) ga1 gb1 (by omega) (by omega)).mono ?_); rintro e w3 ⟨A3, c5, l3, rfl, hb, s3, g3, k3, k4, k5, k8⟩; replace H := H.ext hb; clear hb; obtain ⟨b5, o5, H4, f5⟩ := H.addSl s3; clear H s3; have H := H4; clear H4; dsimp only; (refine a8c34bfe ?_; clear hK K))
   | (go_at_call 88; (with_reducible refine (trim_any (FW F _) _ (H.fw_lt rfl hF) _ _ _ l3 (H.giveRd m0 f5) g3 (by omega) k5 k8).mono ?_); rintro e w3 ⟨A4, c6, l4, rfl, hb, s4, g4, k6, k7⟩; replace H := H.ext hb; clear hb; obtain ⟨b6, o6, H4, f6⟩ := H.addSl s4; clear H s4; have H := H4; clear H4; dsimp only; (refine a8c34bfe ?_; clear hK K))
   | ((first | guard_target = wpList _ _ _ (_ :: _) _ _ | guard_target = wpTree _ _ _ _ _ _ _); (first | (refine aa335462 ?_) | (refine a43dfdd6 ?_; clear H; (try clear w2); intro w2 H) | (refine a32a6bca ?_; intro b2; clear H; (try clear w2); intro w2 H; (first | (clear tk0; rename Nat => d2) | (clear tk1; rename Nat => d3) | (clear tk2; rename Nat => d4))) | (guard_target = wpTree _ _ _ Tr.nil _ _ _; refine tree_nil ?_) | (refine ace93fc0 ?_; intro K hK))))
  have hr := H.loadVarN (P := Tryz.prog) (ty := 124) m2 (by simp) (by simp)
  exact bodyPost_ret (v := .agg #[.bool (decide (sgn s (val l3) < 0)), .slice A4 l4.length c6]) (by simp [results, Tryz.results85, asAddr, hr]) rfl ⟨A4, c6, l4, by rw [← k3], H.below, (H.giveRd m0 f6).fw, by rw [← k3]; exact g4, k6, k7⟩
 ·have hz1 := A2' hst
  have hz2 := A3' hst
  have hst1 : (s == t) = false := by simpa using hst
  have hst2 : decide (s = t) = false := by simpa using hst
  clear A1' A2' A3' hs ht
  by_cases hle : val b ≤ val a
  ·have hz := hz1 hle
   rw [← hz]
   have HLE := Lib.hid hle
   have HLEN := Lib.hid (len_le_of_val gb ga hle)
   obtain ⟨q, hq⟩ : ∃ q, cmpN x.natAbs y.natAbs = q := ⟨_, rfl⟩
   have hq0 : decide ((0 : Int) ≤ q) = true := by
    rw [← hq, ← gav, ← gbv]; unfold cmpN; rw [if_neg (by omega)]; split <;> simp
   have HS : ∀ (F : Nat → Prop) (w : World) (hF : ∀ k, F k → k < w.heap.size) (A1 A2 : Option Addr) (c1 c2 : Nat) (ha : Sl F w A1 (dl a)) (hb : Sl F w A2 (dl b)), Calls Tryz.prog 87 #[.slice A1 a.length c1, .slice A2 b.length c2] w fun e w' => e = .returned (.int .i64 q) ∧ Below w.heap.size w w' := by
    intro F w hF A1 A2 c1 c2 ha hb
    rw [← hq]
    exact size_any F w hF A1 A2 c1 c2 a b x y ha hb ga gb (by omega) (by omega)
   clear hz1 hz2 hz hle gav gbv hst hq
   go_enter Tryz.func85, Tryz.ntmps85
   have tk0 : True := trivial
   have tk1 : True := trivial
   have tk2 : True := trivial
   go_wp2_with (first
    | (guard_target = Code.wp _ (Code.region 4 _ true) _ _ _; refine ref03dr2 ?_; clear H; (try clear w2); intro w2 H)
    | (go_at_call 87; (with_reducible refine (HS (FW F _) _ (H.fw_lt rfl hF) _ _ _ _ (H.giveRd m3 f1) (H.giveRd m4 f2)).mono ?_); rintro e w3 ⟨rfl, hb⟩; replace H := H.ext hb; clear hb; dsimp only; (skip))
    | (go_at_call 105; (with_reducible refine (minus_any (FW F _) _ (H.fw_lt rfl hF) _ _ _ _ a b (H.giveRd m3 f1) (H.giveRd m4 f2) ga1 gb1 (by omega) HLEN.out HLE.out).mono ?_); rintro e w3 ⟨A3, c5, l3, rfl, hb, s3, g3, k3, k4, k5, k8⟩; replace H := H.ext hb; clear hb; obtain ⟨b5, o5, H4, f5⟩ := H.addSl s3; clear H s3; have H := H4; clear H4; dsimp only; (refine a8c34bfe ?_; clear hK K))
    | (go_at_call 88; (with_reducible refine (trim_any (FW F _) _ (H.fw_lt rfl hF) _ _ _ l3 (H.giveRd m0 f5) g3 (by omega) k5 k8).mono ?_); rintro e w3 ⟨A4, c6, l4, rfl, hb, s4, g4, k6, k7⟩; replace H := H.ext hb; clear hb; obtain ⟨b6, o6, H4, f6⟩ := H.addSl s4; clear H s4; have H := H4; clear H4; dsimp only; (refine a8c34bfe ?_; clear hK K))
    | ((first | guard_target = wpList _ _ _ (_ :: _) _ _ | guard_target = wpTree _ _ _ _ _ _ _); (first | (refine aa335462 ?_) | (refine a43dfdd6 ?_; clear H; (try clear w2); intro w2 H) | (refine a32a6bca ?_; intro b2; clear H; (try clear w2); intro w2 H; (first | (clear tk0; rename Nat => d2) | (clear tk1; rename Nat => d3) | (clear tk2; rename Nat => d4))) | (guard_target = wpTree _ _ _ Tr.nil _ _ _; refine tree_nil ?_) | (refine ace93fc0 ?_; intro K hK))))
   have hr := H.loadVarN (P := Tryz.prog) (ty := 124) m2 (by simp) (by simp)
   exact bodyPost_ret (v := .agg #[.bool (decide (sgn s (val l3) < 0)), .slice A4 l4.length c6]) (by simp [results, Tryz.results85, asAddr, hr]) rfl ⟨A4, c6, l4, by rw [← k3], H.below, (H.giveRd m0 f6).fw, by rw [← k3]; exact g4, k6, k7⟩
  ·have hle' : val a ≤ val b := by omega
   have hz := hz2 hle'
   rw [← hz]
   have HLE := Lib.hid hle'
   have HLEN := Lib.hid (len_le_of_val ga gb hle')
   obtain ⟨q, hq⟩ : ∃ q, cmpN x.natAbs y.natAbs = q := ⟨_, rfl⟩
   have hq0 : decide ((0 : Int) ≤ q) = false := by
    rw [← hq, ← gav, ← gbv]; unfold cmpN; rw [if_pos (by omega)]; simp
   have HS : ∀ (F : Nat → Prop) (w : World) (hF : ∀ k, F k → k < w.heap.size) (A1 A2 : Option Addr) (c1 c2 : Nat) (ha : Sl F w A1 (dl a)) (hb : Sl F w A2 (dl b)), Calls Tryz.prog 87 #[.slice A1 a.length c1, .slice A2 b.length c2] w fun e w' => e = .returned (.int .i64 q) ∧ Below w.heap.size w w' := by
    intro F w hF A1 A2 c1 c2 ha hb
    rw [← hq]
    exact size_any F w hF A1 A2 c1 c2 a b x y ha hb ga gb (by omega) (by omega)
   clear hz1 hz2 hz hle hle' gav gbv hst hq
   go_enter Tryz.func85, Tryz.ntmps85
   have tk0 : True := trivial
   have tk1 : True := trivial
   have tk2 : True := trivial
   go_wp2_with (first
    | (guard_target = Code.wp _ (Code.region 5 _ true) _ _ _; refine ref03dr3 ?_; clear H; (try clear w2); intro w2 H)
    | (go_at_call 87; (with_reducible refine (HS (FW F _) _ (H.fw_lt rfl hF) _ _ _ _ (H.giveRd m3 f1) (H.giveRd m4 f2)).mono ?_); rintro e w3 ⟨rfl, hb⟩; replace H := H.ext hb; clear hb; dsimp only; (skip))
    | (go_at_call 105; (with_reducible refine (minus_any (FW F _) _ (H.fw_lt rfl hF) _ _ _ _ b a (H.giveRd m4 f2) (H.giveRd m3 f1) gb1 ga1 (by omega) HLEN.out HLE.out).mono ?_); rintro e w3 ⟨A3, c5, l3, rfl, hb, s3, g3, k3, k4, k5, k8⟩; replace H := H.ext hb; clear hb; obtain ⟨b5, o5, H4, f5⟩ := H.addSl s3; clear H s3; have H := H4; clear H4; dsimp only; (refine a8c34bfe ?_; clear hK K))
    | (go_at_call 88; (with_reducible refine (trim_any (FW F _) _ (H.fw_lt rfl hF) _ _ _ l3 (H.giveRd m0 f5) g3 (by omega) k5 k8).mono ?_); rintro e w3 ⟨A4, c6, l4, rfl, hb, s4, g4, k6, k7⟩; replace H := H.ext hb; clear hb; obtain ⟨b6, o6, H4, f6⟩ := H.addSl s4; clear H s4; have H := H4; clear H4; dsimp only; (refine a8c34bfe ?_; clear hK K))
    | ((first | guard_target = wpList _ _ _ (_ :: _) _ _ | guard_target = wpTree _ _ _ _ _ _ _); (first | (refine aa335462 ?_) | (refine a43dfdd6 ?_; clear H; (try clear w2); intro w2 H) | (refine a32a6bca ?_; intro b2; clear H; (try clear w2); intro w2 H; (first | (clear tk0; rename Nat => d2) | (clear tk1; rename Nat => d3) | (clear tk2; rename Nat => d4))) | (guard_target = wpTree _ _ _ Tr.nil _ _ _; refine tree_nil ?_) | (refine ace93fc0 ?_; intro K hK))))
   have hr := H.loadVarN (P := Tryz.prog) (ty := 124) m2 (by simp) (by simp)
   exact bodyPost_ret (v := .agg #[.bool (decide (sgn t (val l3) < 0)), .slice A4 l4.length c6]) (by simp [results, Tryz.results85, asAddr, hr]) rfl ⟨A4, c6, l4, by rw [← k3], H.below, (H.giveRd m0 f6).fw, by rw [← k3]; exact g4, k6, k7⟩
def RetNn (F : Nat → Prop) (w : World) (n : Nat) (e : Ending) (w' : World) : Prop :=
 ∃ A c l, e = .returned (.agg #[.bool false, .slice A l.length c]) ∧ Below w.heap.size w w' ∧ Sl F w' A (dl l) ∧ CnI l (n : Int) ∧ l.length ≤ c ∧ c ≤ maxLen
theorem natneg (n : Nat) : decide ((n : Int) < 0) = false := by simp
theorem RetN.nat {F : Nat → Prop} {w w' : World} {n : Nat} {e : Ending} (h : RetN F w (n : Int) e w') : RetNn F w n e w' := by
 obtain ⟨A, c, l, he, h2⟩ := h
 rw [natneg] at he
 exact ⟨A, c, l, he, h2⟩
theorem trimC_any (F : Nat → Prop) (w : World) (hF : ∀ k, F k → k < w.heap.size) (A : Option Addr) (c : Nat) (l : List Nat) (ha : Sl F w A (dl l)) (g : Dg l) (hl : l.length ≤ 1000) (hc : l.length ≤ c) (hm : c ≤ maxLen) :
  Calls Tryz.prog 88 #[.agg #[.bool false, .slice A l.length c]] w (RetN F w (val l)) := trim_any F w hF false A c l ha g hl hc hm
theorem trimNn_any (F : Nat → Prop) (w : World) (hF : ∀ k, F k → k < w.heap.size) (A : Option Addr) (c : Nat) (l : List Nat) (n : Nat) (hv : val l = n) (ha : Sl F w A (dl l)) (g : Dg l) (hl : l.length ≤ 1000) (hc : l.length ≤ c) (hm : c ≤ maxLen) :
  Calls Tryz.prog 88 #[.agg #[.bool false, .slice A l.length c]] w (RetNn F w n) := (trimC_any F w hF A c l ha g hl hc hm).mono fun e w' h => by rw [← hv]; exact h.nat
theorem addNn_any (F : Nat → Prop) (w : World) (hF : ∀ k, F k → k < w.heap.size) (A1 A2 : Option Addr) (c1 c2 : Nat) (a b : List Nat) (m n p : Nat) (ga : CnI a (m : Int)) (gb : CnI b (n : Int)) (hp : m + n = p) (ha : Sl F w A1 (dl a)) (hb : Sl F w A2 (dl b)) (la : a.length ≤ 900) (lb : b.length ≤ 900) (ma : a.length ≤ c1) (mb : b.length ≤ c2) :
  Calls Tryz.prog 85 #[.agg #[.bool false, .slice A1 a.length c1], .agg #[.bool false, .slice A2 b.length c2]] w (RetNn F w p) := by
 have h := refAdd_any F w hF A1 A2 c1 c2 a b m n ha hb ga gb la lb ma mb
 rw [natneg, natneg] at h
 exact h.mono fun e w' h => by rw [← hp]; exact RetN.nat (by rw [Int.natCast_add]; exact h)
theorem CnI.len_of {l : List Nat} {n m K : Nat} (h : CnI l (n : Int)) (hn : n ≤ m) (hm : m < 65536 ^ K) : l.length ≤ K := h.len_le (by rw [Int.natAbs_natCast]; exact Nat.lt_of_le_of_lt hn hm)
theorem ref03ix1 {P Q : Prop} (k : Q) (h : Hold Q → P := by (intro kk; guard_target = wpList _ _ _ (Oper.mk _ (.call { callee := .builtin .append, args := _, argTypes := _ }) _ _ _ _ :: _) _ _; (with_reducible refine BigFrame.wpList_want ?_ (fun K hK => ?_)); exact rfl; refine o_append (row := ?_) (n := ?_) (xs := ?_) (l' := ?_) Tryz.infoInts rfl rfl rfl H ?_ rfl ?_ ?_ (by kernel_rfl) rfl (by decide) ?_ ?_ ?_ (fun v2 w3 H2 hn => hK _ _ ?_); rotate_left 4; (repeat first | exact .head _ | apply List.Mem.tail); (focus (simp; done)); (focus (intro _; (exact r3))); exact rfl; exact (by unfold maxLen; omega); exact (by omega); clear hK K hn; simp only [List.take_succ_cons, List.take_zero, Nat.one_mul] at H2; simp only [Act.put, List.setIfInBounds_toArray, List.set_cons_succ, List.set_cons_zero]; revert H2; revert w3; revert v2; exact kk.out)) : P := h ⟨k⟩
theorem ref03ir1 {P Q : Prop} (k : Q) (h : Hold Q → InR 12 0 (.q 0 (.q 1 (.q 2 (.q 3 (.q 4 (.q 5 (.e 6 (.q 7 (.e 8 (.q 9 .nil)))))))))) P := by exact aR0) : P := h ⟨k⟩
theorem ref03ir3 {P Q : Prop} (k : Q) (h : Hold Q → InR 15 2 (.q 0 (.q 1 (.q 2 (.q 3 (.q 4 (.q 5 (.q 6 (.q 7 (.q 9 (.q 10 (.q 11 (.q 12 (.e 8 (.e 13 (.e 14 (.e 15 .nil)))))))))))))))) P := by exact aR) : P := h ⟨k⟩
theorem Tryz.infoInts : (Tryz.prog.info? 37).map (fun i => (i.zero, i.size, i.bytes)) = some (some (.slice none 0 0), 1, 24) := by kernel_rfl
def Dbl (F : Nat → Prop) (n : Nat) (L : List Rw) : Prop := ∀ i r, L[i]? = some r → (∃ l, r.xs = dl l ∧ CnI l ((2 ^ i * n : Nat) : Int)) ∧ r.xs.length ≤ r.c ∧ r.c ≤ maxLen ∧ r.xs.length ≤ 451 ∧ (0 < r.xs.length → ¬ F r.b)
theorem Dbl.nil (F : Nat → Prop) (n : Nat) : Dbl F n [] := fun i r h => by simp at h
theorem Dbl.snoc {F : Nat → Prop} {n : Nat} {L : List Rw} (h : Dbl F n L) {A : Option Addr} {b off c : Nat} {l : List Nat} (g : CnI l ((2 ^ L.length * n : Nat) : Int)) (hc : l.length ≤ c) (hm : c ≤ maxLen) (hl : l.length ≤ 451) (hF : 0 < (dl l).length → ¬ F b) :
  Dbl F n (L ++ [⟨A, b, off, dl l, c⟩]) := fun i r hr => by
 rcases Nat.lt_trichotomy i L.length with hi | hi | hi
 ·rw [List.getElem?_append_left hi] at hr; exact h i r hr
 ·subst hi
  simp at hr
  subst hr
  exact ⟨⟨l, rfl, g⟩, by rw [dl_length]; exact hc, hm, by rw [dl_length]; exact hl, hF⟩
 ·rw [List.getElem?_eq_none (by simp; omega)] at hr; cases hr
theorem two_pow_lt {k n m j : Nat} (hn : 0 < n) (h : 2 ^ k * n ≤ m) (hm : m < 65536 ^ j) : k < 16 * j := by
 have h1 : 2 ^ k ≤ 2 ^ k * n := Nat.le_mul_of_pos_right _ hn
 have h2 : (65536 : Nat) ^ j = 2 ^ (16 * j) := by rw [Nat.pow_mul]
 rw [h2] at hm
 exact (Nat.pow_lt_pow_iff_right (by decide)).1 (Nat.lt_of_le_of_lt h1 (Nat.lt_of_le_of_lt h hm))
theorem plusC_any (F : Nat → Prop) (w : World) (hF : ∀ k, F k → k < w.heap.size) (A1 A2 : Option Addr) (c1 c2 : Nat) (a b : List Nat) (m n : Nat) (ha : Sl F w A1 (dl a)) (hb : Sl F w A2 (dl b)) (ga : CnI a m) (gb : CnI b n) (la : a.length ≤ 1000) (lb : b.length ≤ 1000) :
  Calls Tryz.prog 104 #[.slice A1 a.length c1, .slice A2 b.length c2] w (RetC F w (m + n)) :=
 (plus_full F w hF A1 A2 c1 c2 a b ha hb ga.1 gb.1 la lb).mono fun _ _ h => plus_can ga gb h
theorem halve_div (a D : Nat) (hD : 0 < D) : (D ≤ a % (2 * D) → a / D = 2 * (a / (2 * D)) + 1 ∧ a % D = a % (2 * D) - D) ∧ (a % (2 * D) < D → a / D = 2 * (a / (2 * D)) ∧ a % D = a % (2 * D)) := by
 have h1 := Nat.div_add_mod a (2 * D)
 have h2 := Nat.mod_lt a (show 0 < 2 * D by omega)
 have h3 : 2 * D * (a / (2 * D)) = D * (2 * (a / (2 * D))) := by rw [Nat.mul_comm 2 D, Nat.mul_assoc]
 generalize a / (2 * D) = q at *
 generalize a % (2 * D) = r at *
 rw [h3] at h1
 constructor
 ·intro h
  have e : a = (r - D) + D * (2 * q + 1) := by rw [Nat.mul_add, Nat.mul_one]; omega
  rw [e, Nat.add_mul_div_left _ _ hD, Nat.add_mul_mod_self_left, Nat.div_eq_of_lt (by omega), Nat.mod_eq_of_lt (by omega)]
  omega
 ·intro h
  have e : a = r + D * (2 * q) := by omega
  rw [e, Nat.add_mul_div_left _ _ hD, Nat.add_mul_mod_self_left, Nat.div_eq_of_lt h, Nat.mod_eq_of_lt h]
  omega
theorem sgn_quo {x y : Int} {a b : List Nat} (ga : CnI a x) (gb : CnI b y) : sgn (!(decide (x < 0) == decide (y < 0))) (val a / val b) = x.tdiv y := by
 rw [ga.2.2, gb.2.2]; unfold sgn
 by_cases hx : x < 0 <;> by_cases hy : y < 0 <;> simp [hx, hy]
 ·rw [show (x.natAbs : Int) = -x by omega, show (y.natAbs : Int) = -y by omega, ← Int.tdiv_eq_ediv_of_nonneg (by omega), Int.neg_tdiv_neg]
 ·rw [show (x.natAbs : Int) = -x by omega, show (y.natAbs : Int) = y by omega, ← Int.tdiv_eq_ediv_of_nonneg (by omega), Int.neg_tdiv, Int.neg_neg]
 ·rw [show (x.natAbs : Int) = x by omega, show (y.natAbs : Int) = -y by omega, ← Int.tdiv_eq_ediv_of_nonneg (by omega), Int.tdiv_neg, Int.neg_neg]
 ·rw [show (x.natAbs : Int) = x by omega, show (y.natAbs : Int) = y by omega, ← Int.tdiv_eq_ediv_of_nonneg (by omega)]
theorem sgn_rest {x y : Int} {a b : List Nat} (ga : CnI a x) (gb : CnI b y) : sgn (decide (x < 0)) (val a % val b) = x.tmod y := by
 rw [ga.2.2, gb.2.2]; unfold sgn
 by_cases hx : x < 0 <;> by_cases hy : y < 0 <;> simp [hx]
 ·rw [show (x.natAbs : Int) = -x by omega, show (y.natAbs : Int) = -y by omega, ← Int.tmod_eq_emod_of_nonneg (by omega), Int.neg_tmod, Int.tmod_neg, Int.neg_neg]
 ·rw [show (x.natAbs : Int) = -x by omega, show (y.natAbs : Int) = y by omega, ← Int.tmod_eq_emod_of_nonneg (by omega), Int.neg_tmod, Int.neg_neg]
 ·rw [show (x.natAbs : Int) = x by omega, show (y.natAbs : Int) = -y by omega, ← Int.tmod_eq_emod_of_nonneg (by omega), Int.tmod_neg]
 ·rw [show (x.natAbs : Int) = x by omega, show (y.natAbs : Int) = y by omega, ← Int.tmod_eq_emod_of_nonneg (by omega)]
def DivRel2 (F : Nat → Prop) (w : World) (L : List Rw) (A1 A2 AR : Option Addr) (b1 o1 bR k1 k2 d2 d3 d4 d5 d8 : Nat) (s t : Bool) (a b : List Nat) (k : Nat) (left i : Value) (wr : World) : Prop :=
 ∃ (A Al : Option Addr) (c bq oq cl bl ol : Nat) (lq ll : List Nat), k ≤ L.length ∧ i = .int .i64 ((k : Int) - 1) ∧ left = .slice Al ll.length cl ∧ CnI lq ((val a / (2 ^ k * val b) : Nat) : Int) ∧ CnI ll ((val a % (2 ^ k * val b) : Nat) : Int) ∧
  lq.length ≤ c ∧ c ≤ maxLen ∧ ll.length ≤ cl ∧ cl ≤ maxLen ∧ (0 < (dl lq).length → ¬ F bq) ∧ (0 < (dl ll).length → ¬ F bl) ∧
  Own w.heap.size w wr [.cells d8 [.bool false, .slice A lq.length c], .rd A bq oq (dl lq), .rd Al bl ol (dl ll), .rd AR bR 0 (L.map Rw.val), rws L, .cells d5 [.bool false, .slice none 0 0], .cells d4 [.bool false, .slice none 0 0], .cells d3 [.bool t, .slice A2 b.length k2], .cells d2 [.bool s, .slice A1 a.length k1], .rd A1 b1 o1 (dl a)]
def DivRel (F : Nat → Prop) (w : World) (A1 A2 : Option Addr) (b1 o1 k1 k2 d2 d3 d4 d5 : Nat) (s t : Bool) (a b : List Nat) (k : Nat) (row d : Value) (wr : World) : Prop :=
 ∃ (L : List Rw) (A : Option Addr) (c bd od : Nat) (l : List Nat), k = val a + 1 - val l ∧ d = .slice A l.length c ∧ CnI l ((2 ^ L.length * val b : Nat) : Int) ∧ l.length ≤ c ∧ c ≤ maxLen ∧ l.length ≤ 451 ∧ (0 < (dl l).length → ¬ F bd) ∧ Dbl F (val b) L ∧ L.length ≤ 10000 ∧
  Own w.heap.size w wr [rws L, .rd A bd od (dl l), .grow 37 1 row L.length (L.map Rw.val), .cells d5 [.bool false, .slice none 0 0], .cells d4 [.bool false, .slice none 0 0], .cells d3 [.bool t, .slice A2 b.length k2], .cells d2 [.bool s, .slice A1 a.length k1], .rd A1 b1 o1 (dl a)]
def RetN2 (F : Nat → Prop) (w : World) (z1 z2 : Int) (e : Ending) (w' : World) : Prop :=
 ∃ A c l A' c' l', e = .returned (.tuple #[.agg #[.bool (decide (z1 < 0)), .slice A l.length c], .agg #[.bool (decide (z2 < 0)), .slice A' l'.length c']]) ∧ Below w.heap.size w w' ∧ Sl F w' A (dl l) ∧ CnI l z1 ∧ l.length ≤ c ∧ c ≤ maxLen ∧
  Sl F w' A' (dl l') ∧ CnI l' z2 ∧ l'.length ≤ c' ∧ c' ≤ maxLen
set_option maxRecDepth 100000 in
set_option maxHeartbeats 8000000 in
theorem refDiv_any (F : Nat → Prop) (w : World) (hF : ∀ k, F k → k < w.heap.size) (A1 A2 : Option Addr) (k1 k2 : Nat) (a b : List Nat) (x y : Int) (ha : Sl F w A1 (dl a)) (hb : Sl F w A2 (dl b)) (ga : CnI a x) (gb : CnI b y) (la : a.length ≤ 450) (lb : b.length ≤ 450)
  (ma : a.length ≤ k1) (mb : b.length ≤ k2) (ma2 : k1 ≤ maxLen) (mb2 : k2 ≤ maxLen) (hy : y ≠ 0) :
  Calls Tryz.prog 103 #[.agg #[.bool (decide (x < 0)), .slice A1 a.length k1], .agg #[.bool (decide (y < 0)), .slice A2 b.length k2]] w (RetN2 F w (x.tdiv y) (x.tmod y)) := by
 obtain ⟨b2, o2, H2, f2⟩ := (Own.start w).addSl (hb.ro (by rfl))
 obtain ⟨b1, o1, H, f1⟩ := H2.addSl (ha.ro (by rfl))
 clear ha hb H2
 have ga1 := ga.1
 have gb1 := gb.1
 have VB : 0 < val b := by rw [gb.2.2]; omega
 obtain ⟨s, hs⟩ : ∃ s, decide (x < 0) = s := ⟨_, rfl⟩
 obtain ⟨t, ht⟩ : ∃ t, decide (y < 0) = t := ⟨_, rfl⟩
 have hz1 := sgn_quo ga gb
 have hz2 := sgn_rest (b := b) ga gb
 rw [hs, ht] at hz1
 rw [hs] at hz2
 rw [hs, ht]
 have HZ1 := Lib.hid hz1
 have HZ2 := Lib.hid hz2
 clear hs ht hz1 hz2
 go_enter Tryz.func103, Tryz.ntmps103
 have kf := field_num1
 have tk0 : True := trivial
 have tk1 : True := trivial
 have tk2 : True := trivial
 have tk3 : True := trivial
 go_wp2_with (first
  | (go_at_call 88; (with_reducible refine (trimC_any (FW F _) _ (H.fw_lt rfl hF) _ _ b (H.giveRd m5 f2) gb1 (by omega) mb mb2).mono ?_); rintro e w3 ⟨A3, k3, l3, rfl, hb, s3, g3, q2, q3⟩; replace H := H.ext hb; clear hb; obtain ⟨b4, o4, H4, f4⟩ := H.addSl s3; clear H s3; have H := H4; clear H4; dsimp only)
  | (guard_target = wpList _ _ _ (_ :: _) _ _; (first | (refine a15dc6b3 ?_) | (refine a9475ade ?_; intro b2; clear H; (try clear w2); intro w2 H; (first | (clear tk0; rename Nat => d2) | (clear tk1; rename Nat => d3) | (clear tk2; rename Nat => d4) | (clear tk3; rename Nat => d5))))))
 go_loopg [6, 7] (val a + 1 - val b) (DivRel F w A1 A2 b1 o1 k1 k2 d2 d3 d4 d5 s t a b)
 case atStart =>
  have hv := g3.2.2
  rw [Int.natAbs_natCast] at hv
  have hl3 : l3.length ≤ b.length := g3.len_le (K := b.length) (by rw [Int.natAbs_natCast]; exact val_lt gb1)
  refine ⟨[], A3, k3, b4, o4, l3, by rw [hv], rfl, by simpa using g3, q2, q3, by omega, f4, Dbl.nil F _, by simp, ?_⟩
  exact ((H.sub (.cons_cons _ (.cons_cons _ (.cons_cons _ (.cons_cons _ (.cons_cons _ (.cons_cons _ (.cons _ (.refl _))))))))).grow_nil 37 1).swap.rws_nil
 case round =>
  clear H
  obtain ⟨L, A, c, bd, od, l, hk, rfl, gl, hc, hm, hll, fl, hD, hLL, H⟩ := hrel
  have HKK := Lib.hid hk
  clear hk
  have hvl := gl.2.2
  rw [Int.natAbs_natCast] at hvl
  have hS : ∀ (F : Nat → Prop) (w : World) (hF : ∀ k, F k → k < w.heap.size) (A A' : Option Addr) (ha : Sl F w A (dl l)) (hb : Sl F w A' (dl a)), Calls Tryz.prog 87 #[.slice A l.length c, .slice A' a.length k1] w fun e w' => e = .returned (.int .i64 (cmpN (2 ^ L.length * val b) (val a))) ∧ Below w.heap.size w w' := by
   intro F w hF A A' ha' hb'
   have h := size_any F w hF A A' c k1 l a _ x ha' hb' gl ga (by omega) (by omega)
   rw [Int.natAbs_natCast, ← ga.2.2] at h
   exact h
  obtain ⟨q, hq⟩ : ∃ q, cmpN (2 ^ L.length * val b) (val a) = q := ⟨_, rfl⟩
  rw [hq] at hS
  by_cases hle : 2 ^ L.length * val b ≤ val a
  ·have hq0 : decide (q ≤ 0) = true := by
    rw [← hq]; unfold cmpN; split
    ·rfl
    ·rw [if_neg (by omega)]; rfl
   have HLE := Lib.hid hle
   have hln : l.length ≤ a.length := gl.len_le (by rw [Int.natAbs_natCast]; exact Nat.lt_of_le_of_lt hle (val_lt ga1))
   have hK : L.length < 16 * a.length := two_pow_lt VB hle (val_lt ga1)
   have HP : ∀ (F : Nat → Prop) (w : World) (hF : ∀ k, F k → k < w.heap.size) (A A' : Option Addr) (ha : Sl F w A (dl l)) (hb : Sl F w A' (dl l)), Calls Tryz.prog 104 #[.slice A l.length c, .slice A' l.length c] w (RetC F w (2 ^ (L.length + 1) * val b)) := by
    intro F w hF A A' ha' hb'
    have h := plusC_any F w hF A A' c c l l _ _ ha' hb' gl gl (by omega) (by omega)
    rw [show 2 ^ L.length * val b + 2 ^ L.length * val b = 2 ^ (L.length + 1) * val b by rw [Nat.pow_succ, Nat.mul_assoc, Nat.mul_comm 2, ← Nat.mul_assoc]; omega] at h
    exact h
   clear hq hle hvl
   go_wp2_with (first
    | (go_at_call 87; (with_reducible refine (hS (FW F _) _ (H.fw_lt rfl hF) _ _ (H.giveRd m1 fl) (H.giveRd m7 f1)).mono ?_); rintro e w3 ⟨rfl, hb⟩; replace H := H.ext hb; clear hb; dsimp only)
    | (go_at_call 104; (with_reducible refine (HP (FW F _) _ (H.fw_lt rfl hF) _ _ (H.giveRd m2 fl) (H.giveRd m2 fl)).mono ?_); rintro e w3 ⟨A4, c4, l4, rfl, hb, s4, g4, q4, q5⟩; replace H := H.ext hb; clear hb; obtain ⟨b5, o5, H4, f5⟩ := H.addSl s4; clear H s4; have H := H4; clear H4; dsimp only)
    | (guard_target = wpList _ _ _ (_ :: _) _ _; (first | (refine ref03ix1 ?_; intro v2; clear H; (try clear w2); intro w2 H) | (refine a15dc6b3 ?_) | (refine a9475ade ?_; intro b2; clear H; (try clear w2); intro w2 H))))
   have hv4 := g4.2.2
   rw [Int.natAbs_natCast] at hv4
   have e2 : 2 ^ (L.length + 1) * val b = 2 * (2 ^ L.length * val b) := by rw [Nat.pow_succ, Nat.mul_comm (2 ^ L.length) 2, Nat.mul_assoc]
   have hl4 : l4.length ≤ 451 := by
    have : l4.length ≤ a.length + 1 := g4.len_le (by
     rw [Int.natAbs_natCast, e2, Nat.pow_succ]
     have := val_lt ga1
     have h2 := HLE.out
     omega)
    omega
   have hvl := gl.2.2
   rw [Int.natAbs_natCast] at hvl
   go_roundg (val a + 1 - val l4)
   case rel =>
    refine ⟨L ++ [⟨A, bd, od, dl l, c⟩], A4, c4, b5, o5, l4, rfl, rfl, by rw [List.length_append]; exact g4, q4, q5, hl4, f5, hD.snoc gl hc hm hll fl, by rw [List.length_append]; simp; omega, ?_⟩
    have H := H.push m2 m3 c
    rw [List.length_append, List.map_append]
    simp only [List.length_cons, List.length_nil, List.map_cons, List.map_nil, Rw.val, dl_length]
    exact H.sub (.cons_cons _ (.cons_cons _ (.cons _ (.cons _ (.cons _ (.refl _))))))
   case measure =>
    have h1 := HKK.out
    have h2 := HLE.out
    have h3 : 0 < 2 ^ L.length * val b := Nat.mul_pos (Nat.pow_pos (by omega)) VB
    omega
  ·have hq0 : decide (q ≤ 0) = false := by
    rw [← hq]; unfold cmpN; rw [if_neg (by omega), if_pos (by omega)]; rfl
   have HLE := Lib.hid hle
   clear hq hle hvl
   obtain ⟨AR, bR, cR, rfl, hcR, hcR2, H, hBR⟩ := H.front2.growRd
   have hBR := fun h => Nat.not_lt.2 (hBR h)
   have tk0 : True := trivial
   go_wp2_with (first
    | (go_at_call 87; (with_reducible refine (hS (FW F _) _ (H.fw_lt rfl hF) _ _ (H.giveRd m2 fl) (H.giveRd m7 f1)).mono ?_); rintro e w3 ⟨rfl, hb⟩; replace H := H.ext hb; clear hb; dsimp only)
    | (guard_target = wpList _ _ _ (_ :: _) _ _; (first | (refine a15dc6b3 ?_) | (refine a181aa22 ?_; clear H; (try clear w2); intro w2 H) | (refine a9475ade ?_; intro b2; clear H; (try clear w2); intro w2 H; (clear tk0; rename Nat => d8)))))
   go_loopg [9, 10] L.length (DivRel2 F w L A1 A2 AR b1 o1 bR k1 k2 d2 d3 d4 d5 d8 s t a b)
   case atStart =>
    have hlt : val a < 2 ^ L.length * val b := Nat.lt_of_not_le HLE.out
    refine ⟨none, A1, 0, 0, 0, k1, b1, o1, [], a, Nat.le_refl _, rfl, rfl, ?_, ?_, Nat.le_refl _, by unfold maxLen; omega, ma, ma2, fun h => by simp [dl] at h, f1, ?_⟩
    ·rw [Nat.div_eq_of_lt hlt]; exact CnI.zero
    ·rw [Nat.mod_eq_of_lt hlt]; exact ⟨ga1, ga.2.1, by rw [Int.natAbs_natCast]⟩
    ·exact ((H.copy m8 rfl).rdNil none 0 0).front2.sub (.cons_cons _ (.cons_cons _ (.cons_cons _ (.cons_cons _ (.cons_cons _ (.cons _ (.refl _)))))))
   case round =>
    clear H hS hq0
    obtain ⟨A, Al, c, bq, oq, cl, bl, ol, lq, ll, hk, rfl, rfl, gq, gl, hc1, hc2, hl1, hl2, fq, fl, H⟩ := hrel
    by_cases h0 : 0 < gk
    ·obtain ⟨j, rfl⟩ : ∃ j, gk = j + 1 := ⟨gk - 1, by omega⟩
     have e1 : ((j + 1 : Nat) : Int) - 1 = (j : Int) := by omega
     rw [e1]
     clear e1
     have hj : j < L.length := by omega
     obtain ⟨⟨rA, rb, ro, rxs, rc⟩, hr⟩ : ∃ r, L[j]? = some r := ⟨_, List.getElem?_eq_getElem hj⟩
     obtain ⟨⟨lr, hxs, gr⟩, hr1, hr2, hr3, hr4⟩ := hD j _ hr
     simp only at hxs hr1 hr2 hr3 hr4
     subst hxs
     rw [dl_length] at hr1 hr3
     obtain rfl := H.rdAddr m3 (by simp; omega)
     have ldR : (Res.rd (some ⟨bR, 0, none⟩) bR 0 (L.map Rw.val)).at bR (0 + j) [.slice rA lr.length rc] := at_rd (by simp [hr, Rw.val, dl_length])
     rw [Nat.zero_add] at ldR
     have H := H.pick m4 (List.mem_of_getElem? hr)
     simp only at H
     obtain ⟨D, hDD⟩ : ∃ D, 2 ^ j * val b = D := ⟨_, rfl⟩
     have hDp : 0 < D := by rw [← hDD]; exact Nat.mul_pos (Nat.pow_pos (by omega)) VB
     have e2 : 2 ^ (j + 1) * val b = 2 * D := by rw [← hDD, Nat.pow_succ, Nat.mul_comm (2 ^ j) 2, Nat.mul_assoc]
     rw [e2] at gq gl
     rw [hDD] at gr
     have hh := halve_div (val a) D hDp
     have hlq : lq.length ≤ a.length := gq.len_of (Nat.div_le_self _ _) (val_lt ga1)
     have hll' : ll.length ≤ a.length := gl.len_of (Nat.mod_le _ _) (val_lt ga1)
     have hR0 := Nat.mod_le (val a) (2 * D)
     obtain ⟨Q, hQ⟩ : ∃ Q, val a / (2 * D) = Q := ⟨_, rfl⟩
     obtain ⟨R, hR⟩ : ∃ R, val a % (2 * D) = R := ⟨_, rfl⟩
     rw [hQ] at gq hh
     rw [hR] at gl hh hR0
     have HR0 := Lib.hid hR0
     have vll : val ll = R := by have := gl.2.2; rwa [Int.natAbs_natCast] at this
     have vlr : val lr = D := by have := gr.2.2; rwa [Int.natAbs_natCast] at this
     have HDD := Lib.hid hDD
     have HQ := Lib.hid hQ
     have HR := Lib.hid hR
     have gll := gl.1
     have HA := fun (F : Nat → Prop) (w : World) hF A A' ha hb => addNn_any F w hF A A' c c lq lq Q Q (2 * Q) gq gq (by omega) ha hb (by omega) (by omega) hc1 hc1
     have HT := fun (F : Nat → Prop) (w : World) hF A' ha => trimNn_any F w hF A' cl ll R vll ha gll (by omega) hl1 hl2
     obtain ⟨q2, hq2⟩ : ∃ q2, cmpN D R = q2 := ⟨_, rfl⟩
     have HS : ∀ (F : Nat → Prop) (w : World) (hF : ∀ k, F k → k < w.heap.size) (A A' : Option Addr) (c' : Nat) (l' : List Nat) (g' : CnI l' (R : Int)) (ha : Sl F w A (dl lr)) (hb : Sl F w A' (dl l')), Calls Tryz.prog 87 #[.slice A lr.length rc, .slice A' l'.length c'] w fun e w' => e = .returned (.int .i64 q2) ∧ Below w.heap.size w w' := by
      intro F w hF A A' c' l' g' ha' hb'
      have hl' : l'.length ≤ a.length := g'.len_of HR0.out (val_lt ga1)
      have h := size_any F w hF A A' rc c' lr l' _ _ ha' hb' gr g' (by omega) (by omega)
      rw [Int.natAbs_natCast, Int.natAbs_natCast, hq2] at h
      exact h
     by_cases hle : D ≤ R
     ·have hq0 : decide (q2 ≤ 0) = true := by
       rw [← hq2]; unfold cmpN; split
       ·rfl
       ·rw [if_neg (by omega)]; rfl
      have HH := Lib.hid (hh.1 hle)
      have hlen : lr.length ≤ ll.length := len_le_of_val gr gl (by rw [vll, vlr]; exact hle)
      have HM := fun (F : Nat → Prop) (w : World) hF A A' ha hb => minus_any F w hF A A' cl rc ll lr ha hb gll gr.1 (by omega) hlen (by rw [vll, vlr]; exact hle)
      rw [vll, vlr] at HM
      have hlq2 : ∀ l' : List Nat, CnI l' ((2 * Q : Nat) : Int) → l'.length ≤ 900 := fun l' g' => by
       have : l'.length ≤ a.length + 1 := g'.len_of (m := 2 * val a) (by rw [← HQ.out]; have := Nat.div_le_self (val a) (2 * D); omega) (by have := val_lt ga1; rw [Nat.pow_succ]; omega)
       omega
      have H1 : ∀ (F : Nat → Prop) (w : World) (hF : ∀ k, F k → k < w.heap.size) (A A' : Option Addr) (c' : Nat) (l' : List Nat) (g' : CnI l' ((2 * Q : Nat) : Int)) (hc' : l'.length ≤ c') (ha : Sl F w A (dl l')) (hb : Sl F w A' (dl [1])), Calls Tryz.prog 85 #[.agg #[.bool false, .slice A l'.length c'], .agg #[.bool false, .slice A' 1 1]] w (RetNn F w (2 * Q + 1)) :=
       fun F w hF A A' c' l' g' hc' ha hb => addNn_any F w hF A A' c' 1 l' [1] (2 * Q) 1 (2 * Q + 1) g' ⟨by intro d hd; simp at hd; omega, by intro h; simp, rfl⟩ rfl ha hb (hlq2 l' g') (by simp) hc' (by simp)
      clear hq2 hle hh hQ hR hDD vll vlr hlen hR0 e2
      have kf := field_num1
      go_wp2_with (first
       | (go_at_call 85; have n1 := H.notF m0 hF; replace H := H.toRd; (with_reducible refine (H1 (FW F _) _ (H.fw_lt rfl hF) _ _ _ l5 g5 q5 (H.giveRd m4 f5) (H.giveRd m0 (fun _ => n1))).mono ?_); rintro e w3 ⟨A9, c9, l9, rfl, hb, s9, g9, q9, p9⟩; replace H := H.ext hb; clear hb; obtain ⟨b9, o9, H4, f9⟩ := H.addSl s9; clear H s9; have H := H4; clear H4; dsimp only; (skip))
       | (go_at_call 85; (with_reducible refine (HA (FW F _) _ (H.fw_lt rfl hF) _ _ (H.giveRd m2 fq) (H.giveRd m2 fq)).mono ?_); rintro e w3 ⟨A5, c5, l5, rfl, hb, s5, g5, q5, p5⟩; replace H := H.ext hb; clear hb; obtain ⟨b5, o5, H4, f5⟩ := H.addSl s5; clear H s5; have H := H4; clear H4; dsimp only; (skip))
       | (guard_target = Code.wp _ (Code.region 12 _ true) _ _ _; refine ref03ir1 ?_; clear H; (try clear w2); intro w2 H)
       | (go_at_call 88; (with_reducible refine (HT (FW F _) _ (H.fw_lt rfl hF) _ (H.giveRd m4 fl)).mono ?_); rintro e w3 ⟨A6, c6, l6, rfl, hb, s6, g6, q6, p6⟩; replace H := H.ext hb; clear hb; obtain ⟨b6, o6, H4, f6⟩ := H.addSl s6; clear H s6; have H := H4; clear H4; dsimp only; (refine a8c34bfe ?_; clear hK K))
       | (go_at_call 87; (with_reducible refine (HS (FW F _) _ (H.fw_lt rfl hF) _ _ _ l6 g6 (H.giveRd m2 hr4) (H.giveRd m0 f6)).mono ?_); rintro e w3 ⟨rfl, hb⟩; replace H := H.ext hb; clear hb; dsimp only; (refine a8c34bfe ?_; clear hK K))
       | (go_at_call 105; (with_reducible refine (HM (FW F _) _ (H.fw_lt rfl hF) _ _ (H.giveRd m5 fl) (H.giveRd m2 hr4)).mono ?_); rintro e w3 ⟨A7, c7, l7, rfl, hb, s7, g7, v7, len7, q7, p7⟩; replace H := H.ext hb; clear hb; obtain ⟨b7, o7, H4, f7⟩ := H.addSl s7; clear H s7; have H := H4; clear H4; dsimp only; (skip))
       | (go_at_call 88; (with_reducible refine (trimNn_any (FW F _) _ (H.fw_lt rfl hF) _ _ l7 _ v7 (H.giveRd m0 f7) g7 (by omega) q7 p7).mono ?_); rintro e w3 ⟨A8, c8, l8, rfl, hb, s8, g8, q8, p8⟩; replace H := H.ext hb; clear hb; obtain ⟨b8, o8, H4, f8⟩ := H.addSl s8; clear H s8; have H := H4; clear H4; dsimp only; (skip))
       | ((first | guard_target = wpList _ _ _ (_ :: _) _ _ | guard_target = wpTree _ _ _ _ _ _ _); (first | (refine aa335462 ?_) | (refine a43dfdd6 ?_; clear H; (try clear w2); intro w2 H) | (refine a32a6bca ?_; intro b2; clear H; (try clear w2); intro w2 H) | (guard_target = wpTree _ _ _ Tr.nil _ _ _; refine tree_nil ?_) | (refine ace93fc0 ?_; intro K hK))))
      go_roundg j
      case rel =>
       refine ⟨A9, A8, c9, b9, o9, c8, b8, o8, l9, l8, by omega, rfl, rfl, ?_, ?_, q9, p9, q8, p8, f9, f8, ?_⟩
       ·rw [HDD.out, HH.out.1]; exact g9
       ·rw [HDD.out, HH.out.2]; exact g8
       ·exact (H.sub (.cons_cons _ (.cons _ (.cons_cons _ (.cons _ (.cons _ (.cons _ (.cons _ (.cons_cons _ (.cons _ (.cons _ (.refl _)))))))))))).front2
      case measure => omega
     ·have hq0 : decide (q2 ≤ 0) = false := by
       rw [← hq2]; unfold cmpN; rw [if_neg (by omega), if_pos (by omega)]; rfl
      have HH := Lib.hid (hh.2 (by omega))
      clear hq2 hle hh hQ hR hDD vll vlr hR0 e2
      have kf := field_num1
      go_wp2_with (first
       | (go_at_call 85; (with_reducible refine (HA (FW F _) _ (H.fw_lt rfl hF) _ _ (H.giveRd m2 fq) (H.giveRd m2 fq)).mono ?_); rintro e w3 ⟨A5, c5, l5, rfl, hb, s5, g5, q5, p5⟩; replace H := H.ext hb; clear hb; obtain ⟨b5, o5, H4, f5⟩ := H.addSl s5; clear H s5; have H := H4; clear H4; dsimp only; (skip))
       | (guard_target = Code.wp _ (Code.region 12 _ true) _ _ _; refine ref03ir1 ?_; clear H; (try clear w2); intro w2 H)
       | (go_at_call 88; (with_reducible refine (HT (FW F _) _ (H.fw_lt rfl hF) _ (H.giveRd m4 fl)).mono ?_); rintro e w3 ⟨A6, c6, l6, rfl, hb, s6, g6, q6, p6⟩; replace H := H.ext hb; clear hb; obtain ⟨b6, o6, H4, f6⟩ := H.addSl s6; clear H s6; have H := H4; clear H4; dsimp only; (refine a8c34bfe ?_; clear hK K))
       | (go_at_call 87; (with_reducible refine (HS (FW F _) _ (H.fw_lt rfl hF) _ _ _ l6 g6 (H.giveRd m2 hr4) (H.giveRd m0 f6)).mono ?_); rintro e w3 ⟨rfl, hb⟩; replace H := H.ext hb; clear hb; dsimp only; (refine a8c34bfe ?_; clear hK K))
       | ((first | guard_target = wpList _ _ _ (_ :: _) _ _ | guard_target = wpTree _ _ _ _ _ _ _); (first | (refine aa335462 ?_) | (refine a43dfdd6 ?_; clear H; (try clear w2); intro w2 H) | (guard_target = wpTree _ _ _ Tr.nil _ _ _; refine tree_nil ?_) | (refine ace93fc0 ?_; intro K hK))))
      go_roundg j
      case rel =>
       refine ⟨A5, Al, c5, b5, o5, cl, bl, ol, l5, ll, by omega, rfl, rfl, ?_, ?_, q5, p5, hl1, hl2, f5, fl, ?_⟩
       ·rw [HDD.out, HH.out.1]; exact g5
       ·rw [HDD.out, HH.out.2]; exact gl
       ·exact (H.sub (.cons _ (.cons_cons _ (.cons _ (.cons_cons _ (.cons _ (.refl _))))))).swap
      case measure => omega
    ·obtain rfl : gk = 0 := by omega
     have e1 : ((0 : Nat) : Int) - 1 = -1 := rfl
     rw [e1]
     rw [Nat.pow_zero, Nat.one_mul] at gq gl
     have hlq : lq.length ≤ a.length := gq.len_of (Nat.div_le_self _ _) (val_lt ga1)
     have hll' : ll.length ≤ a.length := gl.len_of (Nat.mod_le _ _) (val_lt ga1)
     have HT1 : ∀ (F : Nat → Prop) (w : World) (hF : ∀ k, F k → k < w.heap.size) (A : Option Addr) (ha : Sl F w A (dl lq)), Calls Tryz.prog 88 #[.agg #[.bool (!(s == t)), .slice A lq.length c]] w (RetN F w (x.tdiv y)) := by
      intro F w hF A ha
      have h := trim_any F w hF (!(s == t)) A c lq ha gq.1 (by omega) hc1 hc2
      have e := gq.2.2
      rw [Int.natAbs_natCast] at e
      rw [e, HZ1.out] at h
      exact h
     have HT2 : ∀ (F : Nat → Prop) (w : World) (hF : ∀ k, F k → k < w.heap.size) (A : Option Addr) (ha : Sl F w A (dl ll)), Calls Tryz.prog 88 #[.agg #[.bool s, .slice A ll.length cl]] w (RetN F w (x.tmod y)) := by
      intro F w hF A ha
      have h := trim_any F w hF s A cl ll ha gl.1 (by omega) hl1 hl2
      have e := gl.2.2
      rw [Int.natAbs_natCast] at e
      rw [e, HZ2.out] at h
      exact h
     go_wp2_with (first
      | (guard_target = Code.wp _ (Code.region 15 _ true) _ _ _; replace H := H.front6.front6; refine ref03ir3 ?_; clear H; (try clear w2); intro w2 H)
      | (go_at_call 88; (with_reducible refine (HT1 (FW F _) _ (H.fw_lt rfl hF) _ (H.giveRd m3 fq)).mono ?_); rintro e w3 ⟨A6, c6, l6, rfl, hb, s6, g6, q6, p6⟩; replace H := H.ext hb; clear hb; obtain ⟨b6, o6, H4, f6⟩ := H.addSl s6; clear H s6; have H := H4; clear H4; dsimp only; (refine a8c34bfe ?_; clear hK K))
      | (go_at_call 88; (with_reducible refine (HT2 (FW F _) _ (H.fw_lt rfl hF) _ (H.giveRd m5 fl)).mono ?_); rintro e w3 ⟨A7, c7, l7, rfl, hb, s7, g7, q7, p7⟩; replace H := H.ext hb; clear hb; obtain ⟨b7, o7, H4, f7⟩ := H.addSl s7; clear H s7; have H := H4; clear H4; dsimp only; (refine a8c34bfe ?_; clear hK K))
      | ((first | guard_target = wpList _ _ _ (_ :: _) _ _ | guard_target = wpTree _ _ _ _ _ _ _); (first | (refine aa335462 ?_) | (refine a43dfdd6 ?_; clear H; (try clear w2); intro w2 H) | (guard_target = wpTree _ _ _ Tr.nil _ _ _; refine tree_nil ?_) | (refine ace93fc0 ?_; intro K hK))))
     have r4 := H.loadVarN (P := Tryz.prog) (ty := 124) (b := d4) (by exact m3) (by simp) (by simp)
     have r5 := H.loadVarN (P := Tryz.prog) (ty := 124) (b := d5) (by exact m2) (by simp) (by simp)
     exact bodyPost_ret (v := .tuple #[.agg #[.bool (decide (x.tdiv y < 0)), .slice A6 l6.length c6], .agg #[.bool (decide (x.tmod y < 0)), .slice A7 l7.length c7]]) (by simp [results, Tryz.results103, asAddr, r4, r5]) rfl ⟨A6, c6, l6, A7, c7, l7, rfl, H.below, (H.giveRd m1 f6).fw, g6, q6, p6, (H.giveRd m0 f7).fw, g7, q7, p7⟩
end Go.Proofs.YtlhmjhildlnokaaGreat
