/-
  The walks of the document's layer 4: a quotient.
-/
import Derived.Test.YtlhmjhildlnokaaGreatMd6b25c4b
import Derived.Test.YtlhmjhildlnokaaGreatM808c9093
import Derived.Test.YtlhmjhildlnokaaGreatM90117345
import Derived.Test.YtlhmjhildlnokaaGreatM1e5483af
import Derived.Test.YtlhmjhildlnokaaGreatMf450b182
import Derived.Test.YtlhmjhildlnokaaGreatM6c9709ae
import Derived.Test.YtlhmjhildlnokaaGreatM5d6f42d9
import Derived.Test.YtlhmjhildlnokaaGreatM0d4adf42
namespace Go.Proofs.YtlhmjhildlnokaaGreat
set_option linter.unusedVariables false
set_option linter.unusedSimpArgs false
open Go.RowKit
theorem ref03hx1 {P Q : Prop} (k : Q) (h : Hold Q → P := by (intro kk; guard_target = wpList _ _ _ (Oper.mk _ (.makeSlice _ _ _) _ _ _ _ :: _) _ _; (with_reducible refine BigFrame.wpList_want ?_ (fun K hK => ?_)); exact rfl; refine o_make (n := a.length + b.length + 1) Tryz.infoInt rfl (congrArg (Value.int .i64) (by omega)) (congrArg (Value.int .i64) (by omega)) (by kernel_rfl) ?_ H rfl (fun w3 b2 he H2 => hK _ _ ?_); (focus (exact (by omega))); clear hK K he; simp only [Act.put, List.setIfInBounds_toArray, List.set_cons_succ, List.set_cons_zero]; revert H2; revert w3; revert b2; exact kk.out)) : P := h ⟨k⟩
theorem ref03hg2 {P Q : Prop} (k : Q) (h : Hold Q → P := by (intro kk; (first | (exact a9475ade kk.out) | (guard_target = wpList _ _ _ (Oper.mk _ (.makeSlice _ _ _) _ _ _ _ :: _) _ _; exact ref03hx1 kk.out)))) : P := h ⟨k⟩
theorem ref03hr1 {P Q : Prop} (k : Q) (h : Hold Q → InR 11 0 (.q 0 (.q 1 (.q 2 (.q 3 (.q 4 (.q 5 (.q 6 (.q 7 (.q 8 (.q 9 (.q 10 (.q 11 (.q 12 (.q 13 .nil)))))))))))))) P := by exact aR0) : P := h ⟨k⟩
theorem sgn_mul {x y : Int} {a b : List Nat} (ga : CnI a x) (gb : CnI b y) : sgn (!(decide (x < 0) == decide (y < 0))) (val a * val b) = x * y := by
 rw [ga.2.2, gb.2.2]; unfold sgn
 by_cases hx : x < 0 <;> by_cases hy : y < 0 <;> simp [hx, hy]
 ·rw [show (x.natAbs : Int) = -x by omega, show (y.natAbs : Int) = -y by omega, Int.neg_mul_neg]
 ·rw [show (x.natAbs : Int) = -x by omega, show (y.natAbs : Int) = y by omega, Int.neg_mul, Int.neg_neg]
 ·rw [show (x.natAbs : Int) = x by omega, show (y.natAbs : Int) = -y by omega, Int.mul_neg, Int.neg_neg]
 ·rw [show (x.natAbs : Int) = x by omega, show (y.natAbs : Int) = y by omega]
theorem carry_end {a b l : List Nat} {n c x : Nat} (ga : Dg a) (gb : Dg b) (hn : n < a.length) (hx : a.getD n 0 = x)
  (hv : val l + 65536 ^ (n + (b.length + 1)) * c = val (a.take n) * val b + 65536 ^ n * (x * val b)) : c = 0 := by
 have h1 := mul_next 65536 a b n x hx
 rw [val_vB, val_vB, val_vB] at h1
 rw [h1] at hv
 have h2 : val (a.take (n + 1)) < 65536 ^ (n + 1) := by
  have := val_lt (ga.take (n + 1))
  rwa [List.length_take, Nat.min_eq_left (by omega)] at this
 have h3 := val_lt gb
 have h4 : val (a.take (n + 1)) * val b < 65536 ^ (n + 1) * 65536 ^ b.length := Nat.mul_lt_mul_of_lt_of_le h2 (Nat.le_of_lt h3) (Nat.pow_pos (by omega))
 rw [← Nat.pow_add, show n + 1 + b.length = n + (b.length + 1) by omega] at h4
 rcases Nat.eq_zero_or_pos c with h | h
 ·exact h
 ·have : 65536 ^ (n + (b.length + 1)) * 1 ≤ 65536 ^ (n + (b.length + 1)) * c := Nat.mul_le_mul_left _ h
  omega
def RMulRel (w : World) (A1 A2 : Option Addr) (b1 o1 b2 o2 k1 k2 d2 d3 d4 d5 : Nat) (s t : Bool) (a b : List Nat) (k : Nat) (i : Value) (wr : World) : Prop :=
 ∃ (n : Nat) (l : List Nat), n + k = a.length ∧ i = .int .i64 (n : Int) ∧ l.length = a.length + b.length + 1 ∧ Dg l ∧ val l = val (a.take n) * val b ∧
  Own w.heap.size w wr [.cells d5 (dl l), .cells d4 [.bool false, .slice none 0 0], .cells d3 [.bool t, .slice A2 b.length k2], .cells d2 [.bool s, .slice A1 a.length k1], .rd A1 b1 o1 (dl a), .rd A2 b2 o2 (dl b)]
def RMulIn (w : World) (A1 A2 : Option Addr) (b1 o1 b2 o2 k1 k2 d2 d3 d4 d5 : Nat) (s t : Bool) (a b : List Nat) (n x p : Nat) (k : Nat) (cy j : Value) (wr : World) : Prop :=
 ∃ (m c : Nat) (l : List Nat), m + k = b.length + 1 ∧ j = .int .i64 (m : Int) ∧ cy = .int .i64 (c : Int) ∧ c < 65536 ∧ l.length = a.length + b.length + 1 ∧ Dg l ∧ val l + 65536 ^ (n + m) * c = p + 65536 ^ n * (x * val (b.take m)) ∧
  Own w.heap.size w wr [.cells d5 (dl l), .cells d4 [.bool false, .slice none 0 0], .cells d3 [.bool t, .slice A2 b.length k2], .cells d2 [.bool s, .slice A1 a.length k1], .rd A1 b1 o1 (dl a), .rd A2 b2 o2 (dl b)]
set_option maxRecDepth 100000 in
set_option maxHeartbeats 4000000 in
theorem refMul_any (F : Nat → Prop) (w : World) (hF : ∀ k, F k → k < w.heap.size) (A1 A2 : Option Addr) (k1 k2 : Nat) (a b : List Nat) (x y : Int) (ha : Sl F w A1 (dl a)) (hb : Sl F w A2 (dl b)) (ga : CnI a x) (gb : CnI b y) (la : a.length ≤ 450) (lb : b.length ≤ 450)
  (ma : a.length ≤ k1) (mb : b.length ≤ k2) :
  Calls Tryz.prog 66 #[.agg #[.bool (decide (x < 0)), .slice A1 a.length k1], .agg #[.bool (decide (y < 0)), .slice A2 b.length k2]] w (RetN F w (x * y)) := by
 obtain ⟨b2, o2, H2, f2⟩ := (Own.start w).addSl (hb.ro (by rfl))
 obtain ⟨b1, o1, H, f1⟩ := H2.addSl (ha.ro (by rfl))
 clear ha hb H2
 have hz := sgn_mul ga gb
 have ga1 := ga.1
 have gb1 := gb.1
 obtain ⟨s, hs⟩ : ∃ s, decide (x < 0) = s := ⟨_, rfl⟩
 obtain ⟨t, ht⟩ : ∃ t, decide (y < 0) = t := ⟨_, rfl⟩
 rw [hs, ht] at hz ⊢
 rw [← hz]
 clear hs ht hz ga gb
 go_enter Tryz.func66, Tryz.ntmps66
 have tk0 : True := trivial
 have tk1 : True := trivial
 have tk2 : True := trivial
 have tk3 : True := trivial
 go_wp2_with (guard_target = wpList _ _ _ (_ :: _) _ _; (first | (refine a15dc6b3 ?_) | (refine ref03hg2 ?_; intro b2; clear H; (try clear w2); intro w2 H; (first | (clear tk0; rename Nat => d2) | (clear tk1; rename Nat => d3) | (clear tk2; rename Nat => d4) | (clear tk3; rename Nat => d5)))))
 rw [made_dl] at H
 go_loopg [6] a.length (RMulRel w A1 A2 b1 o1 b2 o2 k1 k2 d2 d3 d4 d5 s t a b)
 case atStart =>
  refine ⟨0, List.replicate (a.length + b.length + 1) 0, Nat.zero_add _, rfl, by simp, Dg.zeros _, ?_, H⟩
  rw [← val_vB, vB_zeros]; simp [val]
 case round =>
  clear H
  obtain ⟨n, l, hk, rfl, hl, gl, hv, H⟩ := hrel
  have HL := Lib.hid hl
  have HV := Lib.hid hv
  clear hl hv
  by_cases h0 : n < a.length
  ·go_wp2_with (guard_target = wpList _ _ _ (_ :: _) _ _; (refine a15dc6b3 ?_))
   go_loopg [7, 8] (b.length + 1) (RMulIn w A1 A2 b1 o1 b2 o2 k1 k2 d2 d3 d4 d5 s t a b n (a.getD n 0) (val (a.take n) * val b))
   case atStart =>
    exact ⟨0, 0, l, Nat.zero_add _, rfl, rfl, by omega, HL.out, gl, by rw [HV.out]; simp [val], H⟩
   case round =>
    clear H
    obtain ⟨m, c, l, hk2, rfl, rfl, hc, hl, gl, hv, H⟩ := hrel
    replace HL := Lib.hid hl
    have HI := Lib.hid hv
    clear hl hv HV
    obtain rfl := H.rdAddr m4 (by rw [dl_length]; omega)
    obtain ⟨x, hx, bx, tx⟩ := dig_at h0 ga1
    replace tx := tx (some ⟨b1, o1, none⟩) b1 o1
    by_cases h1 : m < b.length
    ·obtain rfl := H.rdAddr m5 (by rw [dl_length]; omega)
     obtain ⟨y, hy, by_, ty⟩ := dig_at h1 gb1
     replace ty := ty (some ⟨b2, o2, none⟩) b2 o2
     have hnm : n + m < l.length := by rw [HL.out]; omega
     have hnl : n + m < (dl l).length := by rw [dl_length]; exact hnm
     have hnm2 : n + m < a.length + b.length + 1 := by omega
     obtain ⟨o, ho⟩ : ∃ o, l.getD (n + m) 0 = o := ⟨_, rfl⟩
     have bo : o < 65536 := by rw [← ho]; exact gl.get _
     have ldO : (Res.cells d5 (dl l)).at d5 (n + m) [.int .i64 (o : Int)] := at_cells (by rw [dl_get hnm, ho])
     have HO := Lib.hid ho
     obtain ⟨q, hq⟩ : ∃ q, x * y = q := ⟨_, rfl⟩
     have bq : q ≤ 4294836225 := by rw [← hq]; exact Nat.mul_le_mul (show x ≤ 65535 by omega) (show y ≤ 65535 by omega)
     have hq2 : (x : Int) * (y : Int) = (q : Int) := by rw [← hq]; simp
     have HQ := Lib.hid hq
     clear ho hq hnm
     go_wp2_with (first
      | (guard_target = Code.wp _ (Code.region 11 _ true) _ _ _; refine ref03hr1 ?_; clear H; (try clear w2); intro w2 H)
      | ((first | guard_target = wpList _ _ _ (_ :: _) _ _ | guard_target = wpTree _ _ _ _ _ _ _); (first | (refine aa335462 ?_) | (refine a43dfdd6 ?_; clear H; (try clear w2); intro w2 H) | (guard_target = wpTree _ _ _ Tr.nil _ _ _; refine tree_nil ?_))))
     have e2 : ((o : Int) + (c : Int) + (q : Int)) % 65536 = (((o + c + q) % 65536 : Nat) : Int) := by omega
     rw [e2, dl_set] at H
     go_roundg (gk - 1)
     case rel =>
      have bo' : (o + c + q) / 65536 < 65536 := by omega
      have hI := HI.out
      rw [hx.out] at hI
      refine ⟨m + 1, (o + c + q) / 65536, l.set (n + m) ((o + c + q) % 65536), by omega, by congr 1, by congr 1, bo', by rw [List.length_set]; exact HL.out, gl.set _ _ (by omega), ?_, H⟩
      rw [hx.out, ← val_vB, ← val_vB (b.take _)] at *
      exact mul_round 65536 l b _ x y n m c _ _ o (by rw [HL.out]; omega) HO.out hy.out hI (by rw [HQ.out]; omega)
     case measure => omega
    ·by_cases h2 : 0 < c
     ·have hm : m = b.length := by
       by_cases h : m = b.length
       ·exact h
       ·exfalso
        obtain rfl : m = b.length + 1 := by omega
        have hI := HI.out
        rw [List.take_of_length_le (l := b) (by omega)] at hI
        have := carry_end ga1 gb1 h0 rfl hI
        omega
      have hnm : n + m < l.length := by rw [HL.out]; omega
      have hnl : n + m < (dl l).length := by rw [dl_length]; exact hnm
      have hnm2 : n + m < a.length + b.length + 1 := by omega
      obtain ⟨o, ho⟩ : ∃ o, l.getD (n + m) 0 = o := ⟨_, rfl⟩
      have bo : o < 65536 := by rw [← ho]; exact gl.get _
      have ldO : (Res.cells d5 (dl l)).at d5 (n + m) [.int .i64 (o : Int)] := at_cells (by rw [dl_get hnm, ho])
      have HO := Lib.hid ho
      have HM := Lib.hid hm
      clear ho hnm hm
      go_wp2_with ((guard_target = wpList _ _ _ (_ :: _) _ _); (first | (refine aa335462 ?_) | (refine a43dfdd6 ?_; clear H; (try clear w2); intro w2 H)))
      have e2 : ((o : Int) + (c : Int)) % 65536 = (((o + c) % 65536 : Nat) : Int) := by omega
      rw [e2, dl_set] at H
      go_roundg (gk - 1)
      case rel =>
       have hI := HI.out
       have hm := HM.out
       refine ⟨m + 1, (o + c) / 65536, l.set (n + m) ((o + c) % 65536), by omega, by congr 1, by congr 1, by omega, by rw [List.length_set]; exact HL.out, gl.set _ _ (by omega), ?_, H⟩
       rw [← val_vB, ← val_vB (b.take _)] at *
       exact mul_round 65536 l b _ _ 0 n m c ((o + c) % 65536) ((o + c) / 65536) o (by rw [HL.out]; omega) HO.out (getD_past h1) hI (by rw [Nat.mul_zero]; omega)
      case measure => have hm := HM.out; omega
     ·obtain rfl : c = 0 := by omega
      go_wp2_with ((guard_target = wpList _ _ _ (_ :: _) _ _); (refine aa335462 ?_))
      go_roundg (a.length - (n + 1))
      case rel =>
       have hI := HI.out
       rw [List.take_of_length_le (l := b) (by omega), Nat.mul_zero, Nat.add_zero] at hI
       have h1 := mul_next 65536 a b n _ rfl
       rw [val_vB, val_vB, val_vB] at h1
       rw [h1] at hI
       exact ⟨n + 1, l, by omega, by congr 1, HL.out, gl, hI, H⟩
      case measure => omega
  ·obtain rfl : n = a.length := by omega
   have hv := HV.out
   rw [List.take_length] at hv
   have HQ := Lib.hid hv
   have n2 := H.notF m0 hF
   have H := H.toRd
   have HT : ∀ (F : Nat → Prop) (w : World) (hF : ∀ k, F k → k < w.heap.size) (A : Option Addr) (ha : Sl F w A (dl l)), Calls Tryz.prog 88 #[.agg #[.bool (!(s == t)), .slice A (a.length + b.length + 1) (a.length + b.length + 1)]] w (RetN F w (sgn (!(s == t)) (val l))) := by
    intro F w hF A ha
    have h := trim_any F w hF (!(s == t)) A (a.length + b.length + 1) l ha gl (by rw [HL.out]; omega) (by rw [HL.out]; exact Nat.le_refl _) (by unfold maxLen; omega)
    rw [HL.out] at h
    exact h
   clear hv
   go_wp2_with (first
    | (go_at_call 88; (with_reducible refine (HT (FW F _) _ (H.fw_lt rfl hF) _ (H.giveRd m0 (fun _ => n2))).mono ?_); rintro e w3 ⟨A3, k3, l3, rfl, hb, s3, g3, q2, q3⟩; replace H := H.ext hb; clear hb; obtain ⟨b4, o4, H4, f4⟩ := H.addSl s3; clear H s3; have H := H4; clear H4; dsimp only)
    | (guard_target = wpList _ _ _ (_ :: _) _ _; (first | (refine a15dc6b3 ?_) | (refine a181aa22 ?_; clear H; (try clear w2); intro w2 H))))
   have hr := H.loadVarN (P := Tryz.prog) (ty := 124) m2 (by simp) (by simp)
   rw [← HQ.out]
   exact bodyPost_ret (v := .agg #[.bool (decide (sgn (!(s == t)) (val l) < 0)), .slice A3 l3.length k3]) (by simp [results, Tryz.results66, asAddr, hr]) rfl ⟨A3, k3, l3, rfl, H.below, (H.giveRd m0 f4).fw, g3, q2, q3⟩
def cmpR (x y : Int) : Int := if x < y then -1 else if y < x then 1 else 0
set_option maxRecDepth 100000 in
set_option maxHeartbeats 4000000 in
theorem refCmp_any (F : Nat → Prop) (w : World) (hF : ∀ k, F k → k < w.heap.size) (A1 A2 : Option Addr) (c1 c2 : Nat) (a b : List Nat) (x y : Int) (ha : Sl F w A1 (dl a)) (hb : Sl F w A2 (dl b)) (ga : CnI a x) (gb : CnI b y) (la : a.length ≤ 1000) (lb : b.length ≤ 1000) :
  Calls Tryz.prog 65 #[.agg #[.bool (decide (x < 0)), .slice A1 a.length c1], .agg #[.bool (decide (y < 0)), .slice A2 b.length c2]] w fun e w' => e = .returned (.int .i64 (cmpR x y)) ∧ Below w.heap.size w w' := by
 obtain ⟨b2, o2, H2, f2⟩ := (Own.start w).addSl (hb.ro (by rfl))
 obtain ⟨b1, o1, H, f1⟩ := H2.addSl (ha.ro (by rfl))
 clear ha hb H2
 obtain ⟨s, hs⟩ : ∃ s, decide (x < 0) = s := ⟨_, rfl⟩
 obtain ⟨t, ht⟩ : ∃ t, decide (y < 0) = t := ⟨_, rfl⟩
 have hz : cmpR x y = if s = t then (if s = true then cmpN y.natAbs x.natAbs else cmpN x.natAbs y.natAbs) else (if s = true then -1 else 1) := by
  rw [← hs, ← ht]; unfold cmpR cmpN
  by_cases hx : x < 0 <;> by_cases hy : y < 0 <;> simp [hx, hy] <;> repeat' split <;> omega
 rw [hs, ht, hz]
 clear hz hs ht
 have H3 : ∀ (F : Nat → Prop) (w : World) (hF : ∀ k, F k → k < w.heap.size) (A1 A2 : Option Addr) (c1 c2 : Nat) (ha : Sl F w A1 (dl a)) (hb : Sl F w A2 (dl b)), Calls Tryz.prog 87 #[.slice A1 a.length c1, .slice A2 b.length c2] w fun e w' => e = .returned (.int .i64 (cmpN x.natAbs y.natAbs)) ∧ Below w.heap.size w w' :=
  fun F w hF A1 A2 c1 c2 ha hb => size_any F w hF A1 A2 c1 c2 a b x y ha hb ga gb la lb
 have H4 : ∀ (F : Nat → Prop) (w : World) (hF : ∀ k, F k → k < w.heap.size) (A1 A2 : Option Addr) (c1 c2 : Nat) (ha : Sl F w A1 (dl b)) (hb : Sl F w A2 (dl a)), Calls Tryz.prog 87 #[.slice A1 b.length c1, .slice A2 a.length c2] w fun e w' => e = .returned (.int .i64 (cmpN y.natAbs x.natAbs)) ∧ Below w.heap.size w w' :=
  fun F w hF A1 A2 c1 c2 ha hb => size_any F w hF A1 A2 c1 c2 b a y x ha hb gb ga lb la
 generalize cmpN x.natAbs y.natAbs = u at *
 generalize cmpN y.natAbs x.natAbs = v at *
 clear ga gb
 cases s <;> cases t
 ·go_enter Tryz.func65, Tryz.ntmps65
  have tk0 : True := trivial
  have tk1 : True := trivial
  go_wp2_with (first
   | (go_at_call 87; (with_reducible refine (H3 (FW F _) _ (H.fw_lt rfl hF) _ _ _ _ (H.giveRd m2 f1) (H.giveRd m3 f2)).mono ?_); rintro e w3 ⟨rfl, hb⟩; replace H := H.ext hb; clear hb; dsimp only)
   | (guard_target = wpList _ _ _ (_ :: _) _ _; (first | (refine a15dc6b3 ?_) | (refine a9475ade ?_; intro b2; clear H; (try clear w2); intro w2 H; (first | (clear tk0; rename Nat => d2) | (clear tk1; rename Nat => d3))))))
  go_ret
  exact ⟨rfl, H.below⟩
 ·go_enter Tryz.func65, Tryz.ntmps65
  have tk0 : True := trivial
  have tk1 : True := trivial
  go_wp2_with (guard_target = wpList _ _ _ (_ :: _) _ _; (first | (refine a15dc6b3 ?_) | (refine a9475ade ?_; intro b2; clear H; (try clear w2); intro w2 H; (first | (clear tk0; rename Nat => d2) | (clear tk1; rename Nat => d3)))))
  go_ret
  exact ⟨rfl, H.below⟩
 ·go_enter Tryz.func65, Tryz.ntmps65
  have tk0 : True := trivial
  have tk1 : True := trivial
  go_wp2_with (guard_target = wpList _ _ _ (_ :: _) _ _; (first | (refine a15dc6b3 ?_) | (refine a9475ade ?_; intro b2; clear H; (try clear w2); intro w2 H; (first | (clear tk0; rename Nat => d2) | (clear tk1; rename Nat => d3)))))
  go_ret
  exact ⟨rfl, H.below⟩
 ·go_enter Tryz.func65, Tryz.ntmps65
  have tk0 : True := trivial
  have tk1 : True := trivial
  go_wp2_with (first
   | (go_at_call 87; (with_reducible refine (H4 (FW F _) _ (H.fw_lt rfl hF) _ _ _ _ (H.giveRd m3 f2) (H.giveRd m2 f1)).mono ?_); rintro e w3 ⟨rfl, hb⟩; replace H := H.ext hb; clear hb; dsimp only)
   | (guard_target = wpList _ _ _ (_ :: _) _ _; (first | (refine a15dc6b3 ?_) | (refine a9475ade ?_; intro b2; clear H; (try clear w2); intro w2 H; (first | (clear tk0; rename Nat => d2) | (clear tk1; rename Nat => d3))))))
  go_ret
  exact ⟨rfl, H.below⟩
theorem ref04cx1 {P Q : Prop} (k : Q) (h : Hold Q → P := by (intro kk; guard_target = wpList _ _ _ (Oper.mk _ (.build _ _) _ _ _ _ :: _) _ _; (with_reducible refine BigFrame.wpList_want ?_ (fun K hK => ?_)); exact rfl; (refine o_build (v := ?_) (ps := ?_) rfl ?_ ?_ (hK _ _ ?_); rotate_left 2; (focus (simp [Act.eval]; with_reducible exact rfl)); (focus (intro w4; with_reducible exact build_q0 w4))); clear hK K; simp only [Act.put, List.setIfInBounds_toArray, List.set_cons_succ, List.set_cons_zero, cells_iV, iL_length, setL_i, setL_ii, agg_iL, cells_rV, rL_length, setL_r, setL_rr, agg_rL]; exact kk.out)) : P := h ⟨k⟩
theorem ref04cg3 {P Q : Prop} (k : Q) (h : Hold Q → P := by (intro kk; (first | (guard_target = wpList _ _ _ (Oper.mk _ (.load _ _) _ _ _ _ :: _) _ _; exact a3e9400a kk.out) | (guard_target = wpList _ _ _ (Oper.mk _ (.build _ _) _ _ _ _ :: _) _ _; exact ref04cx1 kk.out)))) : P := h ⟨k⟩
theorem ref04cx5 {P Q : Prop} (k : Q) (h : Hold Q → P := by (intro kk; guard_target = wpTree _ _ _ (Tr.q _ _) _ _ _; (with_reducible refine tree_quiet (o := ?_) (aK H) ?_ ?_ ?_ (fun K hK => ?_)); rotate_left 1; exact rfl; exact rfl; exact rfl; simp only [List.getElem_toArray, List.getElem_cons_succ, List.getElem_cons_zero]; (guard_target = Oper.quiet _ (Oper.mk _ (.load _ _) _ _ _ _) _ _ _; (first | (refine q_loadNum (n := ?_) (d := ?_) rfl rfl ?_ ?_ ?_ (hK _ ?_); rotate_left 2; (repeat first | exact .head _ | apply List.Mem.tail); (focus (intro _; simp [cells_iV, iL_length, setL_i, setL_ii, agg_iL, cells_rV, rL_length, setL_r, setL_rr, agg_rL]; done)); (focus (intro _; simp [cells_iV, iL_length, setL_i, setL_ii, agg_iL, cells_rV, rL_length, setL_r, setL_rr, agg_rL]; done))) | (refine q_loadDen (n := ?_) (d := ?_) rfl rfl ?_ ?_ ?_ (hK _ ?_); rotate_left 2; (repeat first | exact .head _ | apply List.Mem.tail); (focus (intro _; simp [cells_iV, iL_length, setL_i, setL_ii, agg_iL, cells_rV, rL_length, setL_r, setL_rr, agg_rL]; done)); (focus (intro _; simp [cells_iV, iL_length, setL_i, setL_ii, agg_iL, cells_rV, rL_length, setL_r, setL_rr, agg_rL]; done)))); clear hK K; simp only [Act.put, List.setIfInBounds_toArray, List.set_cons_succ, List.set_cons_zero, cells_iV, iL_length, setL_i, setL_ii, agg_iL, cells_rV, rL_length, setL_r, setL_rr, agg_rL]); exact kk.out)) : P := h ⟨k⟩
theorem ref04cg7 {P Q : Prop} (k : Q) (h : Hold Q → P := by (intro kk; (first | (guard_target = wpTree _ _ _ (Tr.q _ _) _ _ _; exact ref04cx5 kk.out) | (guard_target = wpTree _ _ _ (Tr.q _ _) _ _ _; exact a71f6998 kk.out)))) : P := h ⟨k⟩
theorem ref04cr1 {P Q : Prop} (k : Q) (h : Hold Q → InR 3 1 (.q 0 (.q 2 (.e 1 (.e 3 (.e 4 (.q 5 (.q 6 (.e 7 (.q 8 .nil))))))))) P := by exact aR) : P := h ⟨k⟩
theorem ref04cr2 {P Q : Prop} (k : Q) (h : Hold Q → InR 1 0 (.q 0 (.q 1 (.q 3 (.q 4 (.q 7 (.q 8 (.q 10 (.q 11 (.e 2 (.e 5 (.e 6 (.e 9 (.e 12 (.e 13 (.e 14 (.q 15 .nil)))))))))))))))) P := by exact aR0) : P := h ⟨k⟩
theorem len_zero {l : List Nat} {z : Int} (g : CnI l z) : (z = 0 ∧ ((l.length : Int) == 0) = true) ∨ (z ≠ 0 ∧ ((l.length : Int) == 0) = false) := by
 by_cases h : z = 0
 ·have := g.nil_iff.2 h
  subst this
  exact .inl ⟨h, rfl⟩
 ·have : 0 < l.length := List.length_pos_iff.2 fun hl => h (g.nil_iff.1 hl)
  exact .inr ⟨h, by simp; intro hh; rw [hh] at this; simp at this⟩
theorem mkV_form (n d : Int) : ∃ p q, mkV n d = rV p q := by
 unfold mkV
 split
 ·exact ⟨_, _, rfl⟩
 ·exact ⟨_, _, rfl⟩
set_option maxRecDepth 100000 in
set_option maxHeartbeats 8000000 in
theorem ref4Make_any (n d : Int) (hn : R256 n) (hd : R256 d) (w : World) :
  Calls Tryz.prog 61 #[iV n, iV d] w fun e w' => e = .returned (.tuple #[mkV n d, .int .i64 (mkE n d)]) ∧ Below w.heap.size w w' := by
 have H := Own.start w
 have hF : ∀ k : Nat, (fun _ : Nat => False) k → k < w.heap.size := fun k h => h.elim
 have ofn := fun F w hF => refOf_any F w hF n hn
 have ofd := fun F w hF => refOf_any F w hF d hd
 have fn1 := field_num1
 by_cases h0 : d = 0
 ·subst h0
  rw [show mkV n 0 = rV 0 0 by unfold mkV mkE; simp, show mkE n 0 = 4 by unfold mkE; simp]
  unfold RetN at ofd
  go_enter Tryz.func61, Tryz.ntmps61
  have tk0 : True := trivial
  have tk1 : True := trivial
  have tk2 : True := trivial
  go_wp2_with (first
   | (guard_target = bodyPost _ _ _ _ _ _; refine Stopped.out ?_)
   | (go_at_call 67; (with_reducible refine (ofd (FW (fun _ => False) _) _ (H.fw_lt rfl hF)).mono ?_); rintro e w3 ⟨A5, k5, l5, rfl, hb, s5, g5, q5, p5⟩; replace H := H.ext hb; clear hb; obtain ⟨b5, o5, H4, f5⟩ := H.addSl s5; clear H s5; have H := H4; clear H4; (obtain ⟨_, t1⟩ := (len_zero g5).resolve_right (fun hh => hh.1 rfl)); dsimp only; (skip))
   | ((guard_target = wpList _ _ _ (_ :: _) _ _); (first | (refine ref04cg3 ?_) | (refine a4d3ac79 ?_; clear H; (try clear w2); intro w2 H) | (refine ad887164 ?_; intro b2; clear H; (try clear w2); intro w2 H; (first | (clear tk0; rename Nat => c1) | (clear tk1; rename Nat => c2) | (clear tk2; rename Nat => c3))))))
  have hr := H.loadVarN (P := Tryz.prog) (ty := 106) m1 (by simp) (by simp [rL_length])
  exact ⟨bodyPost_ret (v := .tuple #[rV 0 0, .int .i64 4]) (by simp [results, Tryz.results61, asAddr, hr, agg_rL]) rfl ⟨rfl, H.below⟩⟩
 ·have hM := fun F w hF A1 A2 c1 c2 a b => refMade_any F w hF A1 A2 c1 c2 a b n d hn hd h0
  obtain ⟨p, q, e⟩ := mkV_form n d
  rw [e] at hM ⊢
  generalize mkE n d = u at *
  clear e
  go_enter Tryz.func61, Tryz.ntmps61
  have tk0 : True := trivial
  have tk1 : True := trivial
  have tk2 : True := trivial
  go_wp2_with (first
   | (guard_target = bodyPost _ _ _ _ _ _; refine Stopped.out ?_)
   | (guard_target = Code.wp _ (Code.region 3 _ true) _ _ _; replace H := H.front1; refine ref04cr1 ?_; clear H; (try clear w2); intro w2 H)
   | (go_at_call 67; (with_reducible refine (ofd (FW (fun _ => False) _) _ (H.fw_lt rfl hF)).mono ?_); rintro e w3 ⟨A5, k5, l5, rfl, hb, s5, g5, q5, p5⟩; replace H := H.ext hb; clear hb; obtain ⟨b5, o5, H4, f5⟩ := H.addSl s5; clear H s5; have H := H4; clear H4; (obtain ⟨_, t1⟩ := (len_zero g5).resolve_left (fun hh => h0 hh.1)); dsimp only; (first | (refine a0f32232 ?_; clear hK K) | skip))
   | (go_at_call 67; (with_reducible refine (ofn (FW (fun _ => False) _) _ (H.fw_lt rfl hF)).mono ?_); rintro e w3 ⟨A6, k6, l6, rfl, hb, s6, g6, q6, p6⟩; replace H := H.ext hb; clear hb; obtain ⟨b6, o6, H4, f6⟩ := H.addSl s6; clear H s6; have H := H4; clear H4; dsimp only; (refine a0f32232 ?_; clear hK K))
   | (go_at_call 80; (with_reducible refine (hM (FW (fun _ => False) _) _ (H.fw_lt rfl hF) _ _ _ _ l6 l5 (aD f6) (aD f5) g6 g5 q6 q5 p6 p5).mono ?_); rintro e w3 ⟨rfl, hb⟩; replace H := H.ext hb; clear hb; dsimp only; (refine a0f32232 ?_; clear hK K))
   | ((first | guard_target = wpList _ _ _ (_ :: _) _ _ | guard_target = wpTree _ _ _ _ _ _ _); (first | (refine a0f09ed3 ?_) | (refine a4d3ac79 ?_; clear H; (try clear w2); intro w2 H) | (refine ad887164 ?_; intro b2; clear H; (try clear w2); intro w2 H; (first | (clear tk0; rename Nat => c1) | (clear tk1; rename Nat => c2) | (clear tk2; rename Nat => c3))) | (guard_target = wpTree _ _ _ Tr.nil _ _ _; refine tree_nil ?_) | (refine ace93fc0 ?_; intro K hK))))
  have hr := H.loadVarN (P := Tryz.prog) (ty := 106) m2 (by simp) (by simp [rL_length])
  exact ⟨bodyPost_ret (v := .tuple #[rV p q, .int .i64 u]) (by simp [results, Tryz.results61, asAddr, hr, agg_rL]) rfl ⟨rfl, H.below⟩⟩
def FitRel (w : World) (b0 o0 b1 o1 b2 o2 : Nat) (A1 A2 : Option Addr) (r0 : List Value) (a b : List Nat) (v1 v2 : Bool) (k : Nat) (i : Value) (wr : World) : Prop :=
 ∃ j L, j + k = 2 ∧ i = .int .i64 ((j : Nat) : Int) ∧ (0 < j → v1 = true) ∧ (1 < j → v2 = true) ∧ Own w.heap.size w wr (L ++ [.rd (some ⟨b0, o0, none⟩) b0 o0 r0, .rd A1 b1 o1 (dl a), .rd A2 b2 o2 (dl b)])
set_option maxRecDepth 100000 in
set_option maxHeartbeats 8000000 in
theorem ref4Fit_any (F : Nat → Prop) (w : World) (hF : ∀ k, F k → k < w.heap.size) (S A1 A2 : Option Addr) (c1 c2 : Nat) (a b : List Nat) (x y : Int) (hs : Sl F w S [.bool (decide (x < 0)), .slice A1 a.length c1, .bool (decide (y < 0)), .slice A2 b.length c2])
  (ha : Sl F w A1 (dl a)) (hb : Sl F w A2 (dl b)) (ga : CnI a x) (gb : CnI b y) (la : a.length ≤ 1000) (lb : b.length ≤ 1000) (ma : a.length ≤ c1) (ma2 : c1 ≤ maxLen) (mb : b.length ≤ c2) (mb2 : c2 ≤ maxLen) :
  Calls Tryz.prog 84 #[.slice S 2 2] w fun e w' => e = .returned (.bool (decide (R256 x) && decide (R256 y))) ∧ Below w.heap.size w w' := by
 obtain ⟨b2, o2, H2, f2⟩ := (Own.start w).addSl (hb.ro (by rfl))
 obtain ⟨b1, o1, H1, f1⟩ := H2.addSl (ha.ro (by rfl))
 obtain ⟨b0, o0, H, f0⟩ := H1.addSl (hs.ro (by rfl))
 clear ha hb hs H2 H1
 have hS := H.rdAddr m0 (by simp)
 subst hS
 have h1 := fun F w hF ha => refWords_any F w hF A1 c1 a x ha ga la ma ma2
 have h2 := fun F w hF hb => refWords_any F w hF A2 c2 b y hb gb lb mb mb2
 generalize decide (R256 x) = v1 at *
 generalize decide (R256 y) = v2 at *
 have t0 : (Res.rd (some ⟨b0, o0, none⟩) b0 o0 [.bool (decide (x < 0)), .slice A1 a.length c1, .bool (decide (y < 0)), .slice A2 b.length c2]).at b0 (o0 + 0) [.bool (decide (x < 0)), .slice A1 a.length c1] := at_rdN rfl
 have t2 : (Res.rd (some ⟨b0, o0, none⟩) b0 o0 [.bool (decide (x < 0)), .slice A1 a.length c1, .bool (decide (y < 0)), .slice A2 b.length c2]).at b0 (o0 + 2) [.bool (decide (y < 0)), .slice A2 b.length c2] := at_rdN rfl
 simp only [Nat.add_zero] at t0
 clear ga gb la ma ma2 lb mb mb2
 generalize decide (x < 0) = sx at *
 generalize decide (y < 0) = sy at *
 generalize fitZ x = zx at *
 generalize fitZ y = zy at *
 go_enter Tryz.func84, Tryz.ntmps84
 go_wp2_with (first | fail)
 go_loopg [3] 2 (FitRel w b0 o0 b1 o1 b2 o2 A1 A2 [.bool sx, .slice A1 a.length c1, .bool sy, .slice A2 b.length c2] a b v1 v2)
 case atStart => exact ⟨0, [], rfl, rfl, by simp, by simp, H⟩
 case round =>
  clear H
  obtain ⟨j, L, hk, rfl, e1, e2, H⟩ := hrel
  match j, hk with
  | 0, hk =>
   obtain rfl : gk = 2 := by omega
   clear hk e1 e2
   replace H := H.sub (List.sublist_append_right L _)
   cases v1 with
   | false =>
    have tk0 : True := trivial
    go_wp2_with (first
     | (go_at_call 81; (with_reducible refine (h1 (FW F _) _ (H.fw_lt rfl hF) (aD f1)).mono ?_); rintro e w3 ⟨rfl, hb⟩; replace H := H.ext hb; clear hb; dsimp only)
     | (guard_target = wpList _ _ _ (_ :: _) _ _; (first | (refine ac566c20 ?_) | (refine afa22382 ?_; clear H; (try clear w2); intro w2 H) | (refine a84b70ec ?_; intro b2; clear H; (try clear w2); intro w2 H; (clear tk0; rename Nat => c1)))))
    go_ret
    exact ⟨by simp, H.below⟩
   | true =>
    have tk0 : True := trivial
    go_wp2_with (first
     | (go_at_call 81; (with_reducible refine (h1 (FW F _) _ (H.fw_lt rfl hF) (aD f1)).mono ?_); rintro e w3 ⟨rfl, hb⟩; replace H := H.ext hb; clear hb; dsimp only)
     | (guard_target = wpList _ _ _ (_ :: _) _ _; (first | (refine ac566c20 ?_) | (refine afa22382 ?_; clear H; (try clear w2); intro w2 H) | (refine a84b70ec ?_; intro b2; clear H; (try clear w2); intro w2 H; (clear tk0; rename Nat => c1)))))
    go_roundg 1
    case rel => exact ⟨1, [_], rfl, rfl, by simp, by simp, H⟩
    case measure => omega
  | 1, hk =>
   obtain rfl : gk = 1 := by omega
   obtain rfl := e1 (by omega)
   clear hk e1 e2
   replace H := H.sub (List.sublist_append_right L _)
   cases v2 with
   | false =>
    have tk0 : True := trivial
    go_wp2_with (first
     | (go_at_call 81; (with_reducible refine (h2 (FW F _) _ (H.fw_lt rfl hF) (aD f2)).mono ?_); rintro e w3 ⟨rfl, hb⟩; replace H := H.ext hb; clear hb; dsimp only)
     | (guard_target = wpList _ _ _ (_ :: _) _ _; (first | (refine ac566c20 ?_) | (refine afa22382 ?_; clear H; (try clear w2); intro w2 H) | (refine a84b70ec ?_; intro b2; clear H; (try clear w2); intro w2 H; (clear tk0; rename Nat => c1)))))
    go_ret
    exact ⟨by simp, H.below⟩
   | true =>
    have tk0 : True := trivial
    go_wp2_with (first
     | (go_at_call 81; (with_reducible refine (h2 (FW F _) _ (H.fw_lt rfl hF) (aD f2)).mono ?_); rintro e w3 ⟨rfl, hb⟩; replace H := H.ext hb; clear hb; dsimp only)
     | (guard_target = wpList _ _ _ (_ :: _) _ _; (first | (refine ac566c20 ?_) | (refine afa22382 ?_; clear H; (try clear w2); intro w2 H) | (refine a84b70ec ?_; intro b2; clear H; (try clear w2); intro w2 H; (clear tk0; rename Nat => c1)))))
    go_roundg 0
    case rel => exact ⟨2, [_], rfl, rfl, by simp, by simp, H⟩
    case measure => omega
  | j + 2, hk =>
   obtain ⟨rfl, rfl⟩ : j = 0 ∧ gk = 0 := by omega
   obtain rfl := e1 (by omega)
   obtain rfl := e2 (by omega)
   clear hk e1 e2
   go_wp2_with (first | fail)
   go_ret
   exact ⟨by simp, H.below⟩
set_option maxRecDepth 100000 in
set_option maxHeartbeats 8000000 in
theorem ref4Cmp_any (n d m e : Int) (hn : R256 n) (hd : R256 d) (hm : R256 m) (he : R256 e) (w : World) :
  Calls Tryz.prog 51 #[rV n d, rV m e] w fun e' w' => e' = .returned (.int .i64 (cmpZW (n * e) (m * d))) ∧ Below w.heap.size w w' := by
 have H := Own.start w
 have hF : ∀ k : Nat, (fun _ : Nat => False) k → k < w.heap.size := fun k h => h.elim
 have on := fun F w hF => refOf_any F w hF n hn
 have od := fun F w hF => refOf_any F w hF d hd
 have om := fun F w hF => refOf_any F w hF m hm
 have oe := fun F w hF => refOf_any F w hF e he
 have u1 := fun F w hF A1 A2 k1 k2 a b ha hb ga gb ma mb => refMul_any F w hF A1 A2 k1 k2 a b n e ha hb ga gb (fit450 hn ga) (fit450 he gb) ma mb
 have u2 := fun F w hF A1 A2 k1 k2 a b ha hb ga gb ma mb => refMul_any F w hF A1 A2 k1 k2 a b m d ha hb ga gb (fit450 hm ga) (fit450 hd gb) ma mb
 have hC := fun F w hF A1 A2 k1 k2 a b ha hb ga gb => refCmp_any F w hF A1 A2 k1 k2 a b (n * e) (m * d) ha hb ga gb (fit1000 (wide_mul hn he) ga) (fit1000 (wide_mul hm hd) gb)
 rw [show cmpR (n * e) (m * d) = cmpZW (n * e) (m * d) from rfl] at hC
 generalize cmpZW (n * e) (m * d) = z at *
 go_enter Tryz.func51, Tryz.ntmps51
 have tk0 : True := trivial
 have tk1 : True := trivial
 go_wp2_with (first
  | (guard_target = Code.wp _ (Code.region 1 _ true) _ _ _; refine ref04cr2 ?_; clear H; (try clear w2); intro w2 H)
  | (go_at_call 67; (with_reducible refine (on (FW (fun _ => False) _) _ (H.fw_lt rfl hF)).mono ?_); rintro e w3 ⟨A5, k5, l5, rfl, hb, s5, g5, q5, p5⟩; replace H := H.ext hb; clear hb; obtain ⟨b5, o5, H4, f5⟩ := H.addSl s5; clear H s5; have H := H4; clear H4; dsimp only; (refine a0f32232 ?_; clear hK K))
  | (go_at_call 67; (with_reducible refine (oe (FW (fun _ => False) _) _ (H.fw_lt rfl hF)).mono ?_); rintro e w3 ⟨A6, k6, l6, rfl, hb, s6, g6, q6, p6⟩; replace H := H.ext hb; clear hb; obtain ⟨b6, o6, H4, f6⟩ := H.addSl s6; clear H s6; have H := H4; clear H4; dsimp only; (refine a0f32232 ?_; clear hK K))
  | (go_at_call 67; (with_reducible refine (om (FW (fun _ => False) _) _ (H.fw_lt rfl hF)).mono ?_); rintro e w3 ⟨A7, k7, l7, rfl, hb, s7, g7, q7, p7⟩; replace H := H.ext hb; clear hb; obtain ⟨b7, o7, H4, f7⟩ := H.addSl s7; clear H s7; have H := H4; clear H4; dsimp only; (refine a0f32232 ?_; clear hK K))
  | (go_at_call 67; (with_reducible refine (od (FW (fun _ => False) _) _ (H.fw_lt rfl hF)).mono ?_); rintro e w3 ⟨A8, k8, l8, rfl, hb, s8, g8, q8, p8⟩; replace H := H.ext hb; clear hb; obtain ⟨b8, o8, H4, f8⟩ := H.addSl s8; clear H s8; have H := H4; clear H4; dsimp only; (refine a0f32232 ?_; clear hK K))
  | (go_at_call 66; (with_reducible refine (u1 (FW (fun _ => False) _) _ (H.fw_lt rfl hF) _ _ _ _ l5 l6 (aD f5) (aD f6) g5 g6 q5 q6).mono ?_); rintro e w3 ⟨A9, k9, l9, rfl, hb, s9, g9, q9, p9⟩; replace H := H.ext hb; clear hb; obtain ⟨b9, o9, H4, f9⟩ := H.addSl s9; clear H s9; have H := H4; clear H4; dsimp only; (refine a0f32232 ?_; clear hK K))
  | (go_at_call 66; (with_reducible refine (u2 (FW (fun _ => False) _) _ (H.fw_lt rfl hF) _ _ _ _ l7 l8 (aD f7) (aD f8) g7 g8 q7 q8).mono ?_); rintro e w3 ⟨A10, k10, l10, rfl, hb, s10, g10, q10, p10⟩; replace H := H.ext hb; clear hb; obtain ⟨b10, o10, H4, f10⟩ := H.addSl s10; clear H s10; have H := H4; clear H4; dsimp only; (refine a0f32232 ?_; clear hK K))
  | (go_at_call 65; (with_reducible refine (hC (FW (fun _ => False) _) _ (H.fw_lt rfl hF) _ _ _ _ l9 l10 (aD f9) (aD f10) g9 g10).mono ?_); rintro e w3 ⟨rfl, hb⟩; replace H := H.ext hb; clear hb; dsimp only; (refine a0f32232 ?_; clear hK K))
  | ((first | guard_target = wpList _ _ _ (_ :: _) _ _ | guard_target = wpTree _ _ _ _ _ _ _); (first | (refine ref04cg7 ?_) | (refine ad887164 ?_; intro b2; clear H; (try clear w2); intro w2 H; (first | (clear tk0; rename Nat => c1) | (clear tk1; rename Nat => c2))) | (guard_target = wpTree _ _ _ Tr.nil _ _ _; refine tree_nil ?_) | (refine ace93fc0 ?_; intro K hK))))
 go_ret
 exact ⟨rfl, H.below⟩
theorem smallx3 {P Q : Prop} (k : Q) (h : Hold Q → P := by (intro kk; guard_target = wpList _ _ _ (Oper.mk _ (.call { callee := .builtin .append, args := _, argTypes := _ }) _ _ _ _ :: _) _ _; (with_reducible refine BigFrame.wpList_want ?_ (fun K hK => ?_)); exact rfl; refine o_append (row := ?_) (n := ?_) (xs := ?_) (l' := ?_) Tryz.infoInt rfl rfl rfl H ?_ rfl ?_ ?_ (by kernel_rfl) rfl (by decide) ?_ ?_ ?_ (fun v2 w3 H2 hn => hK _ _ ?_); rotate_left 4; (repeat first | exact .head _ | apply List.Mem.tail); (focus (simp; done)); (focus (intro _; (exact r1))); exact rfl; exact (by unfold maxLen; omega); exact (by omega); clear hK K hn; simp only [List.take_succ_cons, List.take_zero, Nat.one_mul] at H2; (obtain ⟨A9, c9, rfl⟩ := H2.growForm (v := v2) (by repeat first | exact .head _ | apply List.Mem.tail)); simp only [Act.put, List.setIfInBounds_toArray, List.set_cons_succ, List.set_cons_zero]; revert H2; revert w3; revert c9; revert A9; exact kk.out)) : P := h ⟨k⟩
def SmInv (N k : Nat) (l : List Nat) (q : Nat) : Prop := Dg l ∧ l.length + k = 4 ∧ q < 65536 ^ k ∧ val l + 65536 ^ l.length * q = N ∧ (q = 0 → ∀ h : l ≠ [], l.getLast h ≠ 0)
theorem SmInv.step {N k q : Nat} {l : List Nat} (h : SmInv N k l q) (hq : 0 < q) : 0 < k ∧ SmInv N (k - 1) (l ++ [q % 65536]) (q / 65536) := by
 obtain ⟨h1, h2, h3, h4, h5⟩ := h
 have hk : 0 < k := by
  rcases Nat.eq_zero_or_pos k with h | h
  ·subst h; simp at h3; omega
  ·exact h
 refine ⟨hk, h1.snoc (by omega), by simp; omega, ?_, ?_, ?_⟩
 ·rw [show k = k - 1 + 1 by omega, Nat.pow_succ] at h3
  exact Nat.div_lt_of_lt_mul (by rw [Nat.mul_comm]; exact h3)
 ·rw [val_snoc, List.length_append, List.length_singleton, Nat.pow_succ, Nat.add_assoc, Nat.mul_assoc, ← Nat.mul_add, Nat.mod_add_div]; exact h4
 ·intro h0 hn
  simp only [List.getLast_concat]
  omega
def SmRel (w : World) (b1 b2 : Nat) (N k : Nat) (i : Value) (wr : World) : Prop :=
 ∃ (l : List Nat) (q : Nat) (A : Option Addr) (cp : Nat), i = .int .i64 (q : Int) ∧ SmInv N k l q ∧
  Own w.heap.size w wr [.grow 3 1 (.slice A l.length cp) l.length (dl l), .cells b2 [.bool false, .slice A l.length cp], .cells b1 [.int .u64 0, .int .u64 0, .int .u64 0, .int .u64 0]]
set_option maxRecDepth 100000 in
set_option maxHeartbeats 8000000 in
theorem words_any (n : Int) (h1 : -4611686018427387904 ≤ n) (h2 : n ≤ 4611686018427387904) (w : World) :
  Calls Tryz.prog 62 #[.int .i64 n] w fun e w' => e = .returned (iV n) ∧ Below w.heap.size w w' := by
 have hw := fun F w hF A c l ha ga la ma ma2 => refWords_any F w hF A c l n ha ga la ma ma2
 have hF : ∀ k : Nat, (fun _ : Nat => False) k → k < w.heap.size := fun k h => h.elim
 have r256 : R256 n := by unfold R256; omega
 have ef : fitZ n = n := if_pos r256
 rw [ef, decide_eq_true r256] at hw
 have hN : n.natAbs < 65536 ^ 4 := by omega
 have hneg : n < 0 → -n = (n.natAbs : Int) := by omega
 have hpos : ¬ n < 0 → n = (n.natAbs : Int) := by omega
 have H := Own.start w
 obtain ⟨s, hs⟩ : ∃ s, decide (n < 0) = s := ⟨_, rfl⟩
 rw [hs] at hw
 generalize hNN : n.natAbs = N at *
 have hD : ∀ l k, SmInv N k l 0 → CnI l n := fun l k h => ⟨h.1, h.2.2.2.2 rfl, by rw [hNN, ← h.2.2.2.1]; simp⟩
 have hst : SmInv N 4 [] N := ⟨Dg.nil, rfl, hN, by simp [val], fun _ h => absurd rfl h⟩
 have hb : N ≤ 4611686018427387904 := by omega
 cases s with
 | true =>
  have hn : -n = (N : Int) := hneg (of_decide_eq_true hs)
  clear hneg hpos hN ef r256
  go_enter Tryz.func62, Tryz.ntmps62
  have tk0 : True := trivial
  have tk1 : True := trivial
  go_wp2_with (guard_target = wpList _ _ _ (_ :: _) _ _; (first | (refine a181aa22 ?_; clear H; (try clear w2); intro w2 H) | (refine a9475ade ?_; intro b2; clear H; (try clear w2); intro w2 H; (first | (clear tk0; rename Nat => b1) | (clear tk1; rename Nat => b2)))))
  go_loopg [4] 4 (SmRel w b1 b2 N)
  case atStart =>
   refine ⟨[], N, none, 0, by simp [hn], hst, ?_⟩
   exact H.grow_nil 3 1
  case round =>
   clear H
   obtain ⟨l, q, A, cp, rfl, hinv, H⟩ := hrel
   have hql : q ≤ 4611686018427387904 := by
    have h4 := hinv.2.2.2.1
    have h5 := Nat.le_mul_of_pos_left q (Nat.pow_pos (n := l.length) (show 0 < 65536 by decide))
    omega
   have hll : l.length ≤ 4 := by have := hinv.2.1; omega
   by_cases hq : 0 < q
   ·obtain ⟨hk, hnx⟩ := hinv.step hq
    have HNX := Lib.hid hnx
    clear hinv hnx hst
    have tk0 : True := trivial
    go_wp2_with (guard_target = wpList _ _ _ (_ :: _) _ _; (first | (refine smallx3 ?_; intro Ag cg; clear H; (try clear w2); intro w2 H) | (refine a15dc6b3 ?_) | (refine a181aa22 ?_; clear H; (try clear w2); intro w2 H) | (refine a9475ade ?_; intro b2; clear H; (try clear w2); intro w2 H; (clear tk0; rename Nat => b6))))
    have e1 : (q : Int) % 65536 = ((q % 65536 : Nat) : Int) := by omega
    have e2 : (q : Int) / 65536 = ((q / 65536 : Nat) : Int) := by omega
    go_roundg (gk - 1)
    case rel =>
     refine ⟨l ++ [q % 65536], q / 65536, Ag, cg, by rw [← e2], HNX.out, ?_⟩
     rw [dl_append, List.length_append, List.length_singleton]
     exact H.tail
    case measure => omega
   ·obtain rfl : q = 0 := by omega
    have hc := hD l gk hinv
    clear hinv hst
    obtain ⟨A2, b3, c3, e3, l3, m3, H, f3⟩ := H.growRd
    injection e3 with e3 _ e4
    subst e3 e4
    have hw2 := fun F w hF ha => hw F w hF A cp l ha hc (by omega) l3 m3
    have tk0 : True := trivial
    have tk1 : True := trivial
    go_wp2_with (first
     | (guard_target = bodyPost _ _ _ _ _ _; refine Stopped.out ?_)
     | (go_at_call 81; (with_reducible refine (hw2 (FW (fun _ => False) _) _ (H.fw_lt rfl hF) (aD (fun h => fun k => k))).mono ?_); rintro e w3 ⟨rfl, hb⟩; replace H := H.ext hb; clear hb; dsimp only)
     | (guard_target = wpList _ _ _ (_ :: _) _ _; (first | (refine ac566c20 ?_) | (refine afa22382 ?_; clear H; (try clear w2); intro w2 H) | (refine a84b70ec ?_; intro b2; clear H; (try clear w2); intro w2 H; (clear tk0; rename Nat => b7)))))
    have hr := H.loadVarN (P := Tryz.prog) (ty := 104) (b := b1) (row := iL n) (by simp) (by simp) (by simp [iL_length])
    exact ⟨bodyPost_ret (v := iV n) (by simp [results, Tryz.results62, asAddr, hr, agg_iL]) rfl ⟨rfl, H.below⟩⟩
 | false =>
  have hn : n = (N : Int) := hpos (of_decide_eq_false hs)
  have HQ := Lib.hid hn
  clear hneg hpos hN ef r256 hn
  go_enter Tryz.func62, Tryz.ntmps62
  have tk0 : True := trivial
  have tk1 : True := trivial
  go_wp2_with (guard_target = wpList _ _ _ (_ :: _) _ _; (first | (refine a181aa22 ?_; clear H; (try clear w2); intro w2 H) | (refine a9475ade ?_; intro b2; clear H; (try clear w2); intro w2 H; (first | (clear tk0; rename Nat => b1) | (clear tk1; rename Nat => b2)))))
  go_loopg [4] 4 (SmRel w b1 b2 N)
  case atStart =>
   refine ⟨[], N, none, 0, by rw [← HQ.out], hst, ?_⟩
   exact H.grow_nil 3 1
  case round =>
   clear H
   obtain ⟨l, q, A, cp, rfl, hinv, H⟩ := hrel
   have hql : q ≤ 4611686018427387904 := by
    have h4 := hinv.2.2.2.1
    have h5 := Nat.le_mul_of_pos_left q (Nat.pow_pos (n := l.length) (show 0 < 65536 by decide))
    omega
   have hll : l.length ≤ 4 := by have := hinv.2.1; omega
   by_cases hq : 0 < q
   ·obtain ⟨hk, hnx⟩ := hinv.step hq
    have HNX := Lib.hid hnx
    clear hinv hnx hst
    have tk0 : True := trivial
    go_wp2_with (guard_target = wpList _ _ _ (_ :: _) _ _; (first | (refine smallx3 ?_; intro Ag cg; clear H; (try clear w2); intro w2 H) | (refine a15dc6b3 ?_) | (refine a181aa22 ?_; clear H; (try clear w2); intro w2 H) | (refine a9475ade ?_; intro b2; clear H; (try clear w2); intro w2 H; (clear tk0; rename Nat => b6))))
    have e1 : (q : Int) % 65536 = ((q % 65536 : Nat) : Int) := by omega
    have e2 : (q : Int) / 65536 = ((q / 65536 : Nat) : Int) := by omega
    go_roundg (gk - 1)
    case rel =>
     refine ⟨l ++ [q % 65536], q / 65536, Ag, cg, by rw [← e2], HNX.out, ?_⟩
     rw [dl_append, List.length_append, List.length_singleton]
     exact H.tail
    case measure => omega
   ·obtain rfl : q = 0 := by omega
    have hc := hD l gk hinv
    clear hinv hst
    obtain ⟨A2, b3, c3, e3, l3, m3, H, f3⟩ := H.growRd
    injection e3 with e3 _ e4
    subst e3 e4
    have hw2 := fun F w hF ha => hw F w hF A cp l ha hc (by omega) l3 m3
    have tk0 : True := trivial
    have tk1 : True := trivial
    go_wp2_with (first
     | (guard_target = bodyPost _ _ _ _ _ _; refine Stopped.out ?_)
     | (go_at_call 81; (with_reducible refine (hw2 (FW (fun _ => False) _) _ (H.fw_lt rfl hF) (aD (fun h => fun k => k))).mono ?_); rintro e w3 ⟨rfl, hb⟩; replace H := H.ext hb; clear hb; dsimp only)
     | (guard_target = wpList _ _ _ (_ :: _) _ _; (first | (refine ac566c20 ?_) | (refine afa22382 ?_; clear H; (try clear w2); intro w2 H) | (refine a84b70ec ?_; intro b2; clear H; (try clear w2); intro w2 H; (clear tk0; rename Nat => b7)))))
    have hr := H.loadVarN (P := Tryz.prog) (ty := 104) (b := b1) (row := iL n) (by simp) (by simp) (by simp [iL_length])
    exact ⟨bodyPost_ret (v := iV n) (by simp [results, Tryz.results62, asAddr, hr, agg_iL]) rfl ⟨rfl, H.below⟩⟩
def ratB (n d : Int) : Bool := decide (0 < d ∧ gcdZ n d = 1)
end Go.Proofs.YtlhmjhildlnokaaGreat
namespace Go.Proofs.YtlhmjhildlnokaaGreat
set_option linter.unusedVariables false
open Go.RowKit
end Go.Proofs.YtlhmjhildlnokaaGreat
namespace Go.Proofs.YtlhmjhildlnokaaGreat
set_option linter.unusedVariables false
set_option linter.unusedSimpArgs false
open Go.RowKit
end Go.Proofs.YtlhmjhildlnokaaGreat
namespace Go.Proofs.YtlhmjhildlnokaaGreat
set_option linter.unusedVariables false
theorem dvd_of_gcd {a b c : Int} (h : a ∣ b * c) (g : Int.gcd a b = 1) : a ∣ c := by
 have := Int.dvd_gcd_mul_iff_dvd_mul.2 h
 rw [g] at this
 simpa using this
theorem frac_unique {n d m e : Int} (hd : 0 < d) (he : 0 < e) (g : Int.gcd n d = 1) (k : Int.gcd m e = 1) (h : n * e = m * d) : n = m ∧ d = e := by
 have h1 : d ∣ e := by
  have : d ∣ n * e := ⟨m, by rw [h, Int.mul_comm]⟩
  exact dvd_of_gcd this (by rw [Int.gcd_comm]; exact g)
 have h2 : e ∣ d := by
  have : e ∣ m * d := ⟨n, by rw [← h, Int.mul_comm]⟩
  exact dvd_of_gcd this (by rw [Int.gcd_comm]; exact k)
 have h3 : d = e := by
  have a1 := Int.le_of_dvd he h1
  have a2 := Int.le_of_dvd hd h2
  omega
 subst h3
 exact ⟨Int.eq_of_mul_eq_mul_right (by omega) h, rfl⟩
theorem gcd_red {n d : Int} (hd : d ≠ 0) : Int.gcd (n.tdiv (Int.gcd n d)) (d.tdiv (Int.gcd n d)) = 1 := by
 have hp : 0 < Int.gcd n d := Int.gcd_pos_of_ne_zero_right n hd
 rw [Int.tdiv_eq_ediv_of_dvd (Int.gcd_dvd_left n d), Int.tdiv_eq_ediv_of_dvd (Int.gcd_dvd_right n d)]
 exact Int.gcd_ediv_gcd_ediv_gcd hp
theorem gcdZ_one {n d : Int} : gcdZ n d = 1 ↔ Int.gcd n d = 1 := by unfold gcdZ; omega
theorem ratB_iff {n d : Int} : ratB n d = true ↔ 0 < d ∧ Int.gcd n d = 1 := by
 unfold ratB; rw [decide_eq_true_eq, gcdZ_one]
theorem mk_spec {n d : Int} (hd : d ≠ 0) : mkN n d * d = n * mkD n d ∧ 0 < mkD n d ∧ Int.gcd (mkN n d) (mkD n d) = 1 := by
 have hg := gcd_red (n := n) hd
 have hp := gcd_pos (n := n) hd
 have h1 : n.tdiv (gcdZ n d) * gcdZ n d = n := Int.tdiv_mul_cancel (Int.gcd_dvd_left n d)
 have h2 : d.tdiv (gcdZ n d) * gcdZ n d = d := Int.tdiv_mul_cancel (Int.gcd_dvd_right n d)
 have h3 : Int.gcd (n.tdiv (gcdZ n d)) (d.tdiv (gcdZ n d)) = 1 := hg
 unfold mkN mkD
 generalize n.tdiv (gcdZ n d) = p at *
 generalize d.tdiv (gcdZ n d) = q at *
 generalize gcdZ n d = g at *
 clear hg
 subst h1 h2
 have hs : (q * g < 0 ↔ q < 0) := by
  constructor
  ·intro h
   by_cases hq : 0 ≤ q
   ·have := Int.mul_nonneg hq (Int.le_of_lt hp); omega
   ·omega
  ·intro h; exact Int.mul_neg_of_neg_of_pos h hp
 have hq : q ≠ 0 := fun h => by subst h; simp at hd
 split
 ·next h =>
  have hq2 := hs.1 h
  refine ⟨by grind, by omega, by rw [Int.neg_gcd, Int.gcd_neg]; exact h3⟩
 ·next h =>
  have hq2 : ¬ q < 0 := fun k => h (hs.2 k)
  exact ⟨by grind, by omega, h3⟩
theorem mk_right {n d : Int} (hd : d ≠ 0) : ratB (mkN n d) (mkD n d) = true := by
 obtain ⟨_, h1, h2⟩ := mk_spec (n := n) hd
 exact ratB_iff.2 ⟨h1, h2⟩
theorem mk_back {n d m e : Int} (hr : ratB n d = true) (he : e ≠ 0) (h : n * e = m * d) : mkN m e = n ∧ mkD m e = d := by
 obtain ⟨h1, h2⟩ := ratB_iff.1 hr
 obtain ⟨k1, k2, k3⟩ := mk_spec (n := m) he
 refine frac_unique k2 h1 k3 h2 ?_
 have : (mkN m e * d) * e = (n * mkD m e) * e := by grind
 exact Int.eq_of_mul_eq_mul_right he this
end Go.Proofs.YtlhmjhildlnokaaGreat
namespace Go.Proofs.YtlhmjhildlnokaaGreat
set_option linter.unusedVariables false
set_option linter.unusedSimpArgs false
open Go.RowKit
theorem Own.giveRd0 {B : Nat} {w0 w : World} {l : List Res} {A : Option Addr} {b off : Nat} {xs : List Value} (H : Own B w0 w l) (hm : Res.rd A b off xs ∈ l) : Sl (fun _ => False) w A xs := (H.giveRd (F := fun _ => False) hm (fun _ h => h.elim)).none_of
theorem Own.giveAll {B : Nat} {w0 w : World} {l : List Res} {F : Nat → Prop} {b : Nat} {row : List Value} (H : Own B w0 w l) (hm : Res.cells b row ∈ l) (hF : ∀ k, F k → k < B) : Sl F w (some ⟨b, 0, none⟩) row := H.giveCells hm hF 0 (by simp)
def NumA (F : Nat → Prop) (z : Int) (v : Bool) : AnsA := fun x r => ∃ A k l b o, x = .agg #[.bool (decide (z < 0)), .slice A l.length k] ∧ r = .rd A b o (dl l) ∧ CnI l z ∧ l.length ≤ k ∧ k ≤ maxLen ∧ (0 < (dl l).length → ¬ F b) ∧ ((l.length : Int) == 0) = v
theorem numA_mk {F : Nat → Prop} {z : Int} {v : Bool} {A : Option Addr} {k b o : Nat} {l : List Nat} (g : CnI l z) (q : l.length ≤ k) (p : k ≤ maxLen) (f : 0 < (dl l).length → ¬ F b) (hv : decide (z = 0) = v) : NumA F z v (.agg #[.bool (decide (z < 0)), .slice A l.length k]) (.rd A b o (dl l)) := by
 refine ⟨A, k, l, b, o, rfl, rfl, g, q, p, f, ?_⟩
 rw [← hv]
 rcases len_zero g with ⟨h1, h2⟩ | ⟨h1, h2⟩
 ·rw [h2]; simpa using h1
 ·rw [h2]; simpa using h1
end Go.Proofs.YtlhmjhildlnokaaGreat
