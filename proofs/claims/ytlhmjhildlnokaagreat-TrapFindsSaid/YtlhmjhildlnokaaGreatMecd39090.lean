/-
  The walk of the document's At.
-/
import Derived.Test.YtlhmjhildlnokaaGreatMd6b25c4b
import Derived.Test.YtlhmjhildlnokaaGreatM1e5483af
import Derived.Test.YtlhmjhildlnokaaGreatMa3a16f4d
import Derived.Test.YtlhmjhildlnokaaGreatM90117345
import Derived.Test.YtlhmjhildlnokaaGreatM01095c5b
import Derived.Test.YtlhmjhildlnokaaGreatM403360d4
import Derived.Test.YtlhmjhildlnokaaGreatMc8910ffd
namespace Go.Proofs.YtlhmjhildlnokaaGreat
set_option linter.unusedVariables false
set_option linter.unusedSimpArgs false
open Go.RowKit
theorem do4x4 {P Q : Prop} (k : Q) (h : Hold Q → P := by (intro kk; guard_target = wpTreeA _ _ _ _ _ _ (TrA.q _ _) _ _; refine treeA_quiet (aK H) rfl rfl rfl (fun K hK => ?_); simp only [List.getElem_toArray, List.getElem_cons_succ, List.getElem_cons_zero]; (guard_target = Oper.quiet _ (Oper.mk _ (.load _ _) _ _ _ _) _ _ _; (first | (refine q_loadNum (n := ?_) (d := ?_) rfl rfl ?_ ?_ ?_ (hK _ ?_); rotate_left 2; (repeat first | exact .head _ | apply List.Mem.tail); (focus (intro _; simp [cells_iV, iL_length, setL_i, setL_ii, agg_iL, cells_rV, rL_length, setL_r, setL_rr, agg_rL]; done)); (focus (intro _; simp [cells_iV, iL_length, setL_i, setL_ii, agg_iL, cells_rV, rL_length, setL_r, setL_rr, agg_rL]; done))) | (refine q_loadDen (n := ?_) (d := ?_) rfl rfl ?_ ?_ ?_ (hK _ ?_); rotate_left 2; (repeat first | exact .head _ | apply List.Mem.tail); (focus (intro _; simp [cells_iV, iL_length, setL_i, setL_ii, agg_iL, cells_rV, rL_length, setL_r, setL_rr, agg_rL]; done)); (focus (intro _; simp [cells_iV, iL_length, setL_i, setL_ii, agg_iL, cells_rV, rL_length, setL_r, setL_rr, agg_rL]; done)))); clear hK K; simp only [Act.put, List.setIfInBounds_toArray, List.set_cons_succ, List.set_cons_zero, cells_iV, iL_length, setL_i, setL_ii, agg_iL, cells_rV, rL_length, setL_r, setL_rr, agg_rL]); exact kk.out)) : P := h ⟨k⟩
theorem do4g5 {P Q : Prop} (k : Q) (h : Hold Q → P := by (intro kk; (first | (guard_target = wpList _ _ _ (Oper.mk _ (.load _ _) _ _ _ _ :: _) _ _; exact a3e9400a kk.out) | (guard_target = wpTreeC _ _ _ (Tr.q _ _) _ _ _; exact a18f8d39 kk.out) | (guard_target = wpTreeA _ _ _ _ _ _ (TrA.q _ _) _ _; exact do4x4 kk.out) | (guard_target = wpTreeA _ _ _ _ _ _ (TrA.q _ _) _ _; exact aebfba2f kk.out)))) : P := h ⟨k⟩
theorem do4g10 {P Q : Prop} (k : Q) (h : Hold Q → P := by (intro kk; (first | (guard_target = wpList _ _ _ (Oper.mk _ (.store _ _ _) _ _ _ _ :: _) _ _; exact ae4234ec kk.out) | (guard_target = wpTreeC _ _ _ (Tr.e _ Tr.nil) _ _ _; exact aafc8829 kk.out) | (guard_target = wpTreeA _ _ _ _ _ _ (TrA.e _ TrA.nil) _ _; exact a73c0a12 kk.out) | (guard_target = wpTreeA _ _ _ _ _ _ (TrA.e _ _) _ _; exact af38845a kk.out)))) : P := h ⟨k⟩
theorem do4r1 {P Q : Prop} (k : Q) (h : Hold Q → InR 19 1 (.q 0 (.q 1 (.e 2 (.e 3 (.e 4 .nil))))) P := by exact aRC) : P := h ⟨k⟩
set_option maxRecDepth 200000 in
set_option maxHeartbeats 64000000 in
theorem do4_any (k : Int) (n d m e Z : Int) (hk : (k = 0 ∧ Z = n * e + m * d) ∨ (k = 1 ∧ Z = n * e + -(m * d)) ∨ (k = 2 ∧ Z = n * m)) (hn : R256 n) (hd : R256 d) (hm : R256 m) (he : R256 e) (hr1 : ratB n d = true) (hr2 : ratB m e = true)
  (rgX : R256 (n * e)) (rgY : R256 (m * d)) (rgZ : R256 Z) (rgD : R256 (d * e)) (w : World) :
  Calls Tryz.prog 64 #[.int .i64 k, rV n d, rV m e] w fun e' w' => e' = .returned (.tuple #[mkV Z (d * e), .int .i64 (mkE Z (d * e))]) ∧ Below w.heap.size w w' := by
 have H := Own.start w
 have hF : ∀ k : Nat, (fun _ => False) k → k < w.heap.size := fun k h => h.elim
 have hR1 := fun w => ref4Right_any n d hn hd w
 have hR2 := fun w => ref4Right_any m e hm he w
 rw [show decide (0 < d ∧ gcdZ n d = 1) = ratB n d from rfl, hr1] at hR1
 rw [show decide (0 < e ∧ gcdZ m e = 1) = ratB m e from rfl, hr2] at hR2
 have hd0 := (ratB_iff.1 hr1).1
 have he0 := (ratB_iff.1 hr2).1
 obtain ⟨X, eX⟩ : ∃ z, n * e = z := ⟨_, rfl⟩
 have wX : R512 X := by rw [← eX]; exact wide_mul hn he
 have hMX : ∀ F w (hF : ∀ k, F k → k < w.heap.size) A1 A2 k1 k2 a b (ha : Sl F w A1 (dl a)) (hb : Sl F w A2 (dl b)) (ga : CnI a n) (gb : CnI b e) (ma : a.length ≤ k1) (mb : b.length ≤ k2), Calls Tryz.prog 66 #[.agg #[.bool (decide (n < 0)), .slice A1 a.length k1], .agg #[.bool (decide (e < 0)), .slice A2 b.length k2]] w (RetN F w X) := fun F w hF A1 A2 k1 k2 a b ha hb ga gb ma mb => by rw [← eX]; exact refMul_any F w hF A1 A2 k1 k2 a b n e ha hb ga gb (fit450 hn ga) (fit450 he gb) ma mb
 obtain ⟨Y, eY⟩ : ∃ z, m * d = z := ⟨_, rfl⟩
 have wY : R512 Y := by rw [← eY]; exact wide_mul hm hd
 have hMY : ∀ F w (hF : ∀ k, F k → k < w.heap.size) A1 A2 k1 k2 a b (ha : Sl F w A1 (dl a)) (hb : Sl F w A2 (dl b)) (ga : CnI a m) (gb : CnI b d) (ma : a.length ≤ k1) (mb : b.length ≤ k2), Calls Tryz.prog 66 #[.agg #[.bool (decide (m < 0)), .slice A1 a.length k1], .agg #[.bool (decide (d < 0)), .slice A2 b.length k2]] w (RetN F w Y) := fun F w hF A1 A2 k1 k2 a b ha hb ga gb ma mb => by rw [← eY]; exact refMul_any F w hF A1 A2 k1 k2 a b m d ha hb ga gb (fit450 hm ga) (fit450 hd gb) ma mb
 obtain ⟨D, eD⟩ : ∃ z, d * e = z := ⟨_, rfl⟩
 have wD : R512 D := by rw [← eD]; exact wide_mul hd he
 have hMD : ∀ F w (hF : ∀ k, F k → k < w.heap.size) A1 A2 k1 k2 a b (ha : Sl F w A1 (dl a)) (hb : Sl F w A2 (dl b)) (ga : CnI a d) (gb : CnI b e) (ma : a.length ≤ k1) (mb : b.length ≤ k2), Calls Tryz.prog 66 #[.agg #[.bool (decide (d < 0)), .slice A1 a.length k1], .agg #[.bool (decide (e < 0)), .slice A2 b.length k2]] w (RetN F w D) := fun F w hF A1 A2 k1 k2 a b ha hb ga gb ma mb => by rw [← eD]; exact refMul_any F w hF A1 A2 k1 k2 a b d e ha hb ga gb (fit450 hd ga) (fit450 he gb) ma mb
 obtain ⟨N, eN⟩ : ∃ z, n * m = z := ⟨_, rfl⟩
 have wN : R512 N := by rw [← eN]; exact wide_mul hn hm
 have hMN : ∀ F w (hF : ∀ k, F k → k < w.heap.size) A1 A2 k1 k2 a b (ha : Sl F w A1 (dl a)) (hb : Sl F w A2 (dl b)) (ga : CnI a n) (gb : CnI b m) (ma : a.length ≤ k1) (mb : b.length ≤ k2), Calls Tryz.prog 66 #[.agg #[.bool (decide (n < 0)), .slice A1 a.length k1], .agg #[.bool (decide (m < 0)), .slice A2 b.length k2]] w (RetN F w N) := fun F w hF A1 A2 k1 k2 a b ha hb ga gb ma mb => by rw [← eN]; exact refMul_any F w hF A1 A2 k1 k2 a b n m ha hb ga gb (fit450 hn ga) (fit450 hm gb) ma mb
 have hD0 : D ≠ 0 := by rw [← eD]; exact Int.mul_ne_zero (by omega) (by omega)
 rw [eX] at rgX
 rw [eY] at rgY
 rw [eD] at rgD ⊢
 rw [eX, eY, eN] at hk
 have wZ : R512 Z := by unfold R256 at rgZ; unfold R512; omega
 have hv : (decide (R256 X) && decide (R256 Y)) = true := by simp [rgX, rgY]
 have hFt : ∀ F w (hF : ∀ k, F k → k < w.heap.size) S A1 A2 c1 c2 a b (hs : Sl F w S [.bool (decide (X < 0)), .slice A1 a.length c1, .bool (decide (Y < 0)), .slice A2 b.length c2]) (ha : Sl F w A1 (dl a)) (hb : Sl F w A2 (dl b)) (ga : CnI a X) (gb : CnI b Y) (ma : a.length ≤ c1) (ma2 : c1 ≤ maxLen) (mb : b.length ≤ c2) (mb2 : c2 ≤ maxLen), Calls Tryz.prog 84 #[.slice S 2 2] w fun e w' => e = .returned (.bool true) ∧ Below w.heap.size w w' := fun F w hF S A1 A2 c1 c2 a b hs ha hb ga gb ma ma2 mb mb2 => by
  have h := ref4Fit_any F w hF S A1 A2 c1 c2 a b X Y hs ha hb ga gb (fit1000 wX ga) (fit1000 wY gb) ma ma2 mb mb2
  rw [hv] at h
  exact h
 have hv2 : (decide (R256 Z) && decide (R256 D)) = true := by simp [rgZ, rgD]
 have hFu : ∀ F w (hF : ∀ k, F k → k < w.heap.size) S A1 A2 c1 c2 a b (hs : Sl F w S [.bool (decide (Z < 0)), .slice A1 a.length c1, .bool (decide (D < 0)), .slice A2 b.length c2]) (ha : Sl F w A1 (dl a)) (hb : Sl F w A2 (dl b)) (ga : CnI a Z) (gb : CnI b D) (ma : a.length ≤ c1) (ma2 : c1 ≤ maxLen) (mb : b.length ≤ c2) (mb2 : c2 ≤ maxLen), Calls Tryz.prog 84 #[.slice S 2 2] w fun e w' => e = .returned (.bool true) ∧ Below w.heap.size w w' := fun F w hF S A1 A2 c1 c2 a b hs ha hb ga gb ma ma2 mb mb2 => by
  have h := ref4Fit_any F w hF S A1 A2 c1 c2 a b Z D hs ha hb ga gb (fit1000 wZ ga) (fit1000 wD gb) ma ma2 mb mb2
  rw [hv2] at h
  exact h
 have hAd := fun F w hF A1 A2 k1 k2 a b ha hb ga gb ma mb => refAdd_any F w hF A1 A2 k1 k2 a b X Y ha hb ga gb (Nat.le_trans (fit16 rgX ga) (by decide)) (Nat.le_trans (fit16 rgY gb) (by decide)) ma mb
 have hNg := fun F w hF A c l ha g => refNeg_any F w hF A c l Y ha g (Nat.le_trans (fit16 rgY g) (by decide))
 have hSb := fun F w hF A1 A2 k1 k2 a b ha hb ga gb ma mb => refAdd_any F w hF A1 A2 k1 k2 a b X (-Y) ha hb ga gb (Nat.le_trans (fit16 rgX ga) (by decide)) (Nat.le_trans (fit32 (wide_neg (wide_self rgY)) gb) (by decide)) ma mb
 have hMd := fun F w hF A1 A2 c1 c2 a b => refMade_any F w hF A1 A2 c1 c2 a b Z D rgZ rgD hD0
 obtain ⟨p, q, e⟩ := mkV_form Z D
 rw [e] at hMd ⊢
 obtain ⟨T, eT⟩ : ∃ t, X + Y = t := ⟨_, rfl⟩
 rw [eT] at hAd hk
 obtain ⟨Y', eY'⟩ : ∃ t, -Y = t := ⟨_, rfl⟩
 rw [eY'] at hNg hSb hk
 obtain ⟨S, eS⟩ : ∃ t, X + Y' = t := ⟨_, rfl⟩
 rw [eS] at hSb hk
 generalize mkE Z D = u at *
 clear e hv hv2 eX eY eD eN hr1 hr2 rgX rgY rgZ rgD hd0 he0 hD0 eT eY' eS
 rcases hk with ⟨rfl, rfl⟩ | ⟨rfl, rfl⟩ | ⟨rfl, rfl⟩
 all_goals
  go_enter Tryz.func64, Tryz.ntmps64
  have tk0 : True := trivial
  have tk1 : True := trivial
  have tk2 : True := trivial
  have tk3 : True := trivial
  have tk4 : True := trivial
  have tk5 : True := trivial
  have tk6 : True := trivial
  go_wp2_with (first
   | (guard_target = bodyPost _ _ _ _ _ _; refine Stopped.out ?_)
   | (go_at_call 63; (with_reducible refine (hR1 _).mono ?_); rintro e w3 ⟨rfl, hb⟩; replace H := H.ext hb; clear hb; dsimp only; (skip))
   | (go_at_call 63; (with_reducible refine (hR2 _).mono ?_); rintro e w3 ⟨rfl, hb⟩; replace H := H.ext hb; clear hb; dsimp only; (skip))
   | (go_at_call 66; (with_reducible refine (hMD (FW (fun _ => False) _) _ (H.fw_lt rfl hF) _ _ _ _ l6 l8 (aD f6) (aD f8) g6 g8 q6 q8).mono ?_); rintro e w3 ⟨A11, k11, l11, rfl, hb, s11, g11, q11, p11⟩; replace H := H.ext hb; clear hb; obtain ⟨b11, o11, H4, f11⟩ := H.addSl s11; clear H s11; have H := H4; clear H4; dsimp only; (skip))
   | (go_at_call 66; (with_reducible refine (hMN (FW (fun _ => False) _) _ (H.fw_lt rfl hF) _ _ _ _ l5 l7 (aD f5) (aD f7) g5 g7 q5 q7).mono ?_); rintro e w3 ⟨A12, k12, l12, rfl, hb, s12, g12, q12, p12⟩; replace H := H.ext hb; clear hb; obtain ⟨b12, o12, H4, f12⟩ := H.addSl s12; clear H s12; have H := H4; clear H4; dsimp only; (skip))
   | (go_at_call 84; (with_reducible refine (hFt (fun _ => False) _ (fun k h => h.elim) _ _ _ _ _ l9 l10 (H.giveAll m0 (fun k h => h.elim)) aN0 aN0 g9 g10 q9 p9 q10 p10).mono ?_); rintro e w3 ⟨rfl, hb⟩; replace H := H.ext hb; clear hb; dsimp only; (skip))
   | (go_at_call 85; (with_reducible refine (hAd (FW (fun _ => False) _) _ (H.fw_lt rfl hF) _ _ _ _ l9 l10 (aD f9) (aD f10) g9 g10 q9 q10).mono ?_); rintro e w3 ⟨A13, k13, l13, rfl, hb, s13, g13, q13, p13⟩; replace H := H.ext hb; clear hb; obtain ⟨b13, o13, H4, f13⟩ := H.addSl s13; clear H s13; have H := H4; clear H4; dsimp only; (skip))
   | (guard_target = Code.wp _ (Code.region 19 _ true) _ _ _; refine do4r1 ?_; clear H; (try clear w2); intro w2 H)
   | (go_at_call 86; (with_reducible refine (hNg (FW (fun _ => False) _) _ (H.fw_lt rfl hF) _ _ l10 (aD f10) g10 q10 p10).mono ?_); rintro e w3 ⟨A14, k14, l14, rfl, hb, s14, g14, q14, p14⟩; replace H := H.ext hb; clear hb; obtain ⟨b14, o14, H4, f14⟩ := H.addSl s14; clear H s14; have H := H4; clear H4; dsimp only; (refine a0f32232 ?_; clear hK K))
   | (go_at_call 85; (with_reducible refine (hSb (FW (fun _ => False) _) _ (H.fw_lt rfl hF) _ _ _ _ l9 l14 (aD f9) (aD f14) g9 g14 q9 q14).mono ?_); rintro e w3 ⟨A15, k15, l15, rfl, hb, s15, g15, q15, p15⟩; replace H := H.ext hb; clear hb; obtain ⟨b15, o15, H4, f15⟩ := H.addSl s15; clear H s15; have H := H4; clear H4; dsimp only; (refine a0f32232 ?_; clear hK K))
   | (go_at_call 84; (with_reducible refine (hFu (fun _ => False) _ (fun k h => h.elim) _ _ _ _ _ l15 l11 (H.giveAll m0 (fun k h => h.elim)) aN0 aN0 g15 g11 q15 p15 q11 p11).mono ?_); rintro e w3 ⟨rfl, hb⟩; replace H := H.ext hb; clear hb; dsimp only; (skip))
   | (go_at_call 84; (with_reducible refine (hFu (fun _ => False) _ (fun k h => h.elim) _ _ _ _ _ l13 l11 (H.giveAll m0 (fun k h => h.elim)) aN0 aN0 g13 g11 q13 p13 q11 p11).mono ?_); rintro e w3 ⟨rfl, hb⟩; replace H := H.ext hb; clear hb; dsimp only; (skip))
   | (go_at_call 84; (with_reducible refine (hFu (fun _ => False) _ (fun k h => h.elim) _ _ _ _ _ l12 l11 (H.giveAll m0 (fun k h => h.elim)) aN0 aN0 g12 g11 q12 p12 q11 p11).mono ?_); rintro e w3 ⟨rfl, hb⟩; replace H := H.ext hb; clear hb; dsimp only; (skip))
   | (go_at_call 80; (with_reducible refine (hMd (FW (fun _ => False) _) _ (H.fw_lt rfl hF) _ _ _ _ l15 l11 (aD f15) (aD f11) g15 g11 q15 q11 p15 p11).mono ?_); rintro e w3 ⟨rfl, hb⟩; replace H := H.ext hb; clear hb; dsimp only; (skip))
   | (go_at_call 80; (with_reducible refine (hMd (FW (fun _ => False) _) _ (H.fw_lt rfl hF) _ _ _ _ l13 l11 (aD f13) (aD f11) g13 g11 q13 q11 p13 p11).mono ?_); rintro e w3 ⟨rfl, hb⟩; replace H := H.ext hb; clear hb; dsimp only; (skip))
   | (go_at_call 80; (with_reducible refine (hMd (FW (fun _ => False) _) _ (H.fw_lt rfl hF) _ _ _ _ l12 l11 (aD f12) (aD f11) g12 g11 q12 q11 p12 p11).mono ?_); rintro e w3 ⟨rfl, hb⟩; replace H := H.ext hb; clear hb; dsimp only; (skip))
   | (guard_target = Code.wp _ (Code.region 3 _ true) _ _ _; refine region_treeA0 3 (G := True) (.q 0 (.q 1 (.q 3 (.q 4 (.q 6 (.q 7 (.q 9 (.q 10 (.add [12, 13, 14, 15, 2, 5, 8, 11] (.e 16 (.e 17 (.e 18 (.e 19 .nil))))))))))))) (by kernel_rfl) (by intro c a d v w h; cases d <;> first | exact h | exact hQ h) (by kernel_rfl) H ⟨trivial⟩ (fun _ w3 H2 => ?_); (clear H; (try clear w2); revert w3; intro w2 H))
   | (guard_target = Code.wp _ (Code.region 14 _ true) _ _ _; refine region_treeA0 14 (G := True) (.q 0 (.q 1 (.q 3 (.q 4 (.add [6, 7, 2, 5] (.e 8 (.e 9 .nil))))))) (by kernel_rfl) (by intro c a d v w h; cases d <;> first | exact h | exact hQ h) (by kernel_rfl) H ⟨trivial⟩ (fun _ w3 H2 => ?_); (clear H; (try clear w2); revert w3; intro w2 H))
   | ((first | guard_target = wpList _ _ _ (_ :: _) _ _ | guard_target = wpTreeC _ _ _ _ _ _ _ | guard_target = wpTreeA _ _ _ _ _ _ _ _ _); (first | (refine do4g5 ?_) | (refine do4g10 ?_; clear H; (try clear w2); intro w2 H) | (refine a2820796 ?_; intro b2; clear H; (try clear w2); intro w2 H; (first | (clear tk0; rename Nat => c1) | (clear tk1; rename Nat => c2) | (clear tk2; rename Nat => c3) | (clear tk3; rename Nat => c4) | (clear tk4; rename Nat => c5) | (clear tk5; rename Nat => c6) | (clear tk6; rename Nat => c7))) | (guard_target = wpTreeC _ _ _ Tr.nil _ _ _; refine treeC_nil H ?_; clear H; (try clear w2); intro w2 H) | (guard_target = wpTreeA _ _ _ _ _ _ TrA.nil _ _; refine treeA_nil H ?_; clear H; (try clear w2); intro w2 H) | (guard_target = wpTreeA _ _ _ _ _ _ (TrA.add [12, 13, 14, 15, 2, 5, 8, 11] _) _ _; refine treeA_adds [NewA [.bool false, .slice none 0 0], NewA [.bool false, .slice none 0 0], NewA [.bool false, .slice none 0 0], NewA [.bool false, .slice none 0 0], NumA (fun _ => False) n (decide (n = 0)), NumA (fun _ => False) d (decide (d = 0)), NumA (fun _ => False) m (decide (m = 0)), NumA (fun _ => False) e (decide (e = 0))] H (by repeat first | exact .here | apply Suf.there) (by kernel_rfl) ?_ ?_; (focus (refine ⟨?_, ?_, ?_, ?_, ?_, ?_, ?_, ?_, trivial⟩; all_goals (refine ⟨_, rfl, adds_of rfl (fun w3 l3 H hs3 K hK => ?_)⟩; simp only [List.getElem_toArray, List.getElem_cons_succ, List.getElem_cons_zero]; (first | (refine o_alloc (z := ?_) rfl ?_ H rfl (fun w4 b4 he H2 => ?_); rotate_left 1; (focus (intro _; simp; with_reducible exact rfl)); exact hK _ _ _ newA_mk H2) | (go_big_op; go_at_call 67; (with_reducible refine (refOf_any (FW (fun _ => False) _) _ (H.fw_lt rfl hF) _ (by assumption)).mono ?_); rintro e w3 ⟨A5, k5, l5, rfl, hb, s5, g5, q5, p5⟩; replace H := H.ext hb; clear hb; obtain ⟨b5, o5, H4, f5⟩ := H.addSl s5; clear H s5; have H := H4; clear H4; dsimp only; refine hK _ _ _ ?_ H; exact numA_mk (by assumption) (by assumption) (by assumption) (by assumption) (by rfl)))))); simp only [AllA]; rintro _ _ ⟨x8, rfl, rfl⟩ _ _ ⟨x9, rfl, rfl⟩ _ _ ⟨x10, rfl, rfl⟩ _ _ ⟨x11, rfl, rfl⟩ _ _ ⟨A5, k5, l5, b5, o5, rfl, rfl, g5, q5, p5, f5, -⟩ _ _ ⟨A6, k6, l6, b6, o6, rfl, rfl, g6, q6, p6, f6, -⟩ _ _ ⟨A7, k7, l7, b7, o7, rfl, rfl, g7, q7, p7, f7, -⟩ _ _ ⟨A8, k8, l8, b8, o8, rfl, rfl, g8, q8, p8, f8, -⟩ w3 H2; clear H; (try clear w2); revert w3; intro w2 H; simp only [List.map_cons, List.map_nil, List.cons_append, List.nil_append] at H; simp only [putR]; simp only [List.getElem?_toArray, List.getElem?_cons_succ, List.getElem?_cons_zero, Option.bind_some]; simp only [List.getElem_toArray, List.getElem_cons_succ, List.getElem_cons_zero, Act.put, List.setIfInBounds_toArray, List.set_cons_succ, List.set_cons_zero, cells_iV, iL_length, setL_i, setL_ii, agg_iL, cells_rV, rL_length, setL_r, setL_rr, agg_rL]) | (guard_target = wpTreeA _ _ _ _ _ _ (TrA.add [6, 7, 2, 5] _) _ _; refine treeA_adds [NewA [.bool false, .slice none 0 0], NewA [.bool false, .slice none 0 0], NumA (fun _ => False) X (decide (X = 0)), NumA (fun _ => False) Y (decide (Y = 0))] H (by repeat first | exact .here | apply Suf.there) (by kernel_rfl) ?_ ?_; (focus (refine ⟨?_, ?_, ?_, ?_, trivial⟩; all_goals (refine ⟨_, rfl, adds_of rfl (fun w3 l3 H hs3 K hK => ?_)⟩; simp only [List.getElem_toArray, List.getElem_cons_succ, List.getElem_cons_zero]; (first | (refine o_alloc (z := ?_) rfl ?_ H rfl (fun w4 b4 he H2 => ?_); rotate_left 1; (focus (intro _; simp; with_reducible exact rfl)); exact hK _ _ _ newA_mk H2) | (go_big_op; go_at_call 66; (with_reducible refine (hMX (FW (fun _ => False) _) _ (H.fw_lt rfl hF) _ _ _ _ l5 l8 (aS f5) (aS f8) g5 g8 q5 q8).mono ?_); rintro e w3 ⟨A9, k9, l9, rfl, hb, s9, g9, q9, p9⟩; replace H := H.ext hb; clear hb; obtain ⟨b9, o9, H4, f9⟩ := H.addSl s9; clear H s9; have H := H4; clear H4; dsimp only; refine hK _ _ _ ?_ H; exact numA_mk (by assumption) (by assumption) (by assumption) (by assumption) (by rfl)) | (go_big_op; go_at_call 66; (with_reducible refine (hMY (FW (fun _ => False) _) _ (H.fw_lt rfl hF) _ _ _ _ l7 l6 (aS f7) (aS f6) g7 g6 q7 q6).mono ?_); rintro e w3 ⟨A10, k10, l10, rfl, hb, s10, g10, q10, p10⟩; replace H := H.ext hb; clear hb; obtain ⟨b10, o10, H4, f10⟩ := H.addSl s10; clear H s10; have H := H4; clear H4; dsimp only; refine hK _ _ _ ?_ H; exact numA_mk (by assumption) (by assumption) (by assumption) (by assumption) (by rfl)))))); simp only [AllA]; rintro _ _ ⟨x12, rfl, rfl⟩ _ _ ⟨x13, rfl, rfl⟩ _ _ ⟨A9, k9, l9, b9, o9, rfl, rfl, g9, q9, p9, f9, -⟩ _ _ ⟨A10, k10, l10, b10, o10, rfl, rfl, g10, q10, p10, f10, -⟩ w3 H2; clear H; (try clear w2); revert w3; intro w2 H; simp only [List.map_cons, List.map_nil, List.cons_append, List.nil_append] at H; simp only [putR]; simp only [List.getElem?_toArray, List.getElem?_cons_succ, List.getElem?_cons_zero, Option.bind_some]; simp only [List.getElem_toArray, List.getElem_cons_succ, List.getElem_cons_zero, Act.put, List.setIfInBounds_toArray, List.set_cons_succ, List.set_cons_zero, cells_iV, iL_length, setL_i, setL_ii, agg_iL, cells_rV, rL_length, setL_r, setL_rr, agg_rL]) | (refine a1cd62f9 ?_; clear H; (try clear w2); intro w2 H; intro K hK))))
  all_goals
   have hr := H.loadVarN (P := Tryz.prog) (ty := 106) (b := c3) (row := rL p q) (by simp) (by simp) (by simp [rL_length])
   exact ⟨bodyPost_ret (v := .tuple #[rV p q, .int .i64 u]) (by simp [results, Tryz.results64, asAddr, hr, agg_rL]) rfl ⟨rfl, H.below⟩⟩
end Go.Proofs.YtlhmjhildlnokaaGreat
namespace Go.Proofs.YtlhmjhildlnokaaGreat
set_option linter.unusedVariables false
set_option linter.unusedSimpArgs false
def Md (x : Int) : Prop := -1267650600228229401496703205376 ≤ x ∧ x ≤ 1267650600228229401496703205376
theorem Md.fits {x : Int} (h : Md x) : R256 x := by unfold Md at h; unfold R256; omega
theorem tdiv_abs (x : Int) {g : Int} (hg : 0 < g) : (x.tdiv g).natAbs ≤ x.natAbs := by
 rw [Int.natAbs_tdiv]; exact Nat.div_le_self _ _
theorem mkN_abs (n : Int) {d : Int} (hd : d ≠ 0) : (mkN n d).natAbs ≤ n.natAbs := by
 have := tdiv_abs n (gcd_pos (n := n) hd)
 unfold mkN; split <;> omega
theorem mkD_abs (n : Int) {d : Int} (hd : d ≠ 0) : (mkD n d).natAbs ≤ d.natAbs := by
 have := tdiv_abs d (gcd_pos (n := n) hd)
 unfold mkD; split <;> omega
theorem gcd_abs (n : Int) {d : Int} (hd : d ≠ 0) : (gcdZ n d).natAbs ≤ d.natAbs := by
 unfold gcdZ
 have := Nat.le_of_dvd (by omega) (Nat.gcd_dvd_right n.natAbs d.natAbs)
 simpa [Int.gcd] using this
theorem mkE_ok {n d : Int} (hd : d ≠ 0) (hn : Md n) (hm : Md d) : mkE n d = 0 := by
 have h1 := mkN_abs n hd
 have h2 := mkD_abs n hd
 have h3 := gcd_abs n hd
 unfold Md at hn hm
 have k1 : Md (mkN n d) := by unfold Md; omega
 have k2 : Md (mkD n d) := by unfold Md; omega
 have k3 : Md (gcdZ n d) := by unfold Md; omega
 unfold mkE
 rw [if_neg hd, if_pos ⟨k3.fits, k1.fits, k2.fits⟩]
theorem mkV_ok {n d : Int} (hd : d ≠ 0) (hn : Md n) (hm : Md d) : mkV n d = rV (mkN n d) (mkD n d) := by unfold mkV; rw [if_pos (mkE_ok hd hn hm)]
theorem right_one (n : Int) : ratB n 1 = true := ratB_iff.2 ⟨by omega, Int.gcd_one_right n⟩
theorem mk_one (n : Int) : mkN n 1 = n ∧ mkD n 1 = 1 := mk_back (right_one n) (by omega) rfl
def atP_ (l r : Pt) (k : Int) : Int := (k - l.x) * (r.y - l.y) + l.y * (r.x - l.x)
def atN (l r : Pt) (k : Int) : Int := mkN (atP_ l r k) (r.x - l.x)
def atD (l r : Pt) (k : Int) : Int := mkD (atP_ l r k) (r.x - l.x)
end Go.Proofs.YtlhmjhildlnokaaGreat
namespace Go.Proofs.YtlhmjhildlnokaaGreat
set_option linter.unusedVariables false
set_option linter.unusedSimpArgs false
open Go.RowKit
theorem at5x2 {P Q : Prop} (k : Q) (h : Hold Q → P := by (intro kk; guard_target = wpList _ _ _ (Oper.mk _ (.build _ _) _ _ _ _ :: _) _ _; (with_reducible refine BigFrame.wpList_want ?_ (fun K hK => ?_)); exact rfl; (refine o_build (v := ?_) (ps := ?_) rfl ?_ ?_ (hK _ _ ?_); rotate_left 2; (focus (simp [Act.eval]; with_reducible exact rfl)); (focus (intro w4; with_reducible exact build_q0 w4))); clear hK K; simp only [Act.put, List.setIfInBounds_toArray, List.set_cons_succ, List.set_cons_zero, cells_iV, iL_length, setL_i, setL_ii, agg_iL, cells_rV, rL_length, setL_r, setL_rr, agg_rL]; exact kk.out)) : P := h ⟨k⟩
theorem at5g4 {P Q : Prop} (k : Q) (h : Hold Q → P := by (intro kk; (first | (guard_target = wpList _ _ _ (Oper.mk _ (.load _ _) _ _ _ _ :: _) _ _; exact a3e9400a kk.out) | (guard_target = wpList _ _ _ (Oper.mk _ (.build _ _) _ _ _ _ :: _) _ _; exact at5x2 kk.out) | (guard_target = wpTreeC _ _ _ (Tr.q _ _) _ _ _; exact a18f8d39 kk.out)))) : P := h ⟨k⟩
theorem at5g7 {P Q : Prop} (k : Q) (h : Hold Q → P := by (intro kk; (first | (guard_target = wpList _ _ _ (Oper.mk _ (.store _ _ _) _ _ _ _ :: _) _ _; exact ae4234ec kk.out) | (guard_target = wpTreeC _ _ _ (Tr.e _ _) _ _ _; exact a7a5a233 kk.out)))) : P := h ⟨k⟩
theorem at5r1 {P Q : Prop} (k : Q) (h : Hold Q → InR 11 0 (.q 0 (.q 1 (.q 2 (.q 3 (.q 4 (.q 5 (.q 6 (.q 7 (.q 8 (.q 9 (.q 10 (.q 11 (.q 12 (.q 13 (.q 14 (.q 15 (.e 16 (.e 17 (.q 18 .nil))))))))))))))))))) P := by exact aRC0) : P := h ⟨k⟩
theorem at5r2 {P Q : Prop} (k : Q) (h : Hold Q → InR 8 0 (.q 0 (.q 1 (.q 2 (.q 3 (.q 4 (.q 5 (.q 6 (.q 7 (.e 8 (.e 9 (.q 10 .nil))))))))))) P := by exact aRC0) : P := h ⟨k⟩
theorem at5r3 {P Q : Prop} (k : Q) (h : Hold Q → InR 14 1 (.q 0 (.q 1 (.q 2 (.q 3 (.q 4 (.q 5 (.q 6 (.e 7 (.q 8 .nil))))))))) P := by exact aRC) : P := h ⟨k⟩
theorem at5r4 {P Q : Prop} (k : Q) (h : Hold Q → InR 6 0 (.q 0 (.q 1 (.q 2 (.q 3 (.q 4 (.q 5 (.q 6 (.q 7 (.q 8 (.q 9 (.q 10 (.q 11 (.q 12 (.q 13 .nil)))))))))))))) P := by exact aRC0) : P := h ⟨k⟩
structure AtW (lx ly rx ry k s t u v : Int) : Prop where
 r1 : ratB s t = true
 r2 : ratB u v = true
 ms : Md s ∧ Md t
 mu : Md u ∧ Md v
 mz : Md ((k - lx) * s) ∧ Md (1 * t) ∧ Md (ly * v) ∧ Md (u * 1 + ly * v)
 mt : Md ((k - lx) * t)
 e1 : mkV (ry - ly) (rx - lx) = rV s t
 e2 : mkV (k * 1 + -(lx * 1)) (1 * 1) = rV (k - lx) 1 ∧ mkE (k * 1 + -(lx * 1)) (1 * 1) = 0
 e3 : mkV ((k - lx) * s) (1 * t) = rV u v ∧ mkE ((k - lx) * s) (1 * t) = 0
 e4 : mkV (u * 1 + ly * v) (v * 1) = rV (atN ⟨lx, ly⟩ ⟨rx, ry⟩ k) (atD ⟨lx, ly⟩ ⟨rx, ry⟩ k) ∧ mkE (u * 1 + ly * v) (v * 1) = 0
theorem at_w {lx ly rx ry k : Int} (h1 : -268435456 ≤ lx ∧ lx ≤ 268435456) (h2 : -268435456 ≤ ly ∧ ly ≤ 268435456) (h3 : -268435456 ≤ rx ∧ rx ≤ 268435456) (h4 : -268435456 ≤ ry ∧ ry ≤ 268435456)
  (hk : lx ≤ k ∧ k ≤ rx) (hl : lx < rx) : ∃ s t u v, AtW lx ly rx ry k s t u v := by
 obtain ⟨q, hq⟩ : ∃ q, k - lx = q := ⟨_, rfl⟩
 obtain ⟨dy, hdy⟩ : ∃ q, ry - ly = q := ⟨_, rfl⟩
 obtain ⟨dx, hdx⟩ : ∃ q, rx - lx = q := ⟨_, rfl⟩
 have bq : 0 ≤ q ∧ q ≤ 536870912 := by omega
 have by_ : -536870912 ≤ dy ∧ dy ≤ 536870912 := by omega
 have bx : 0 < dx ∧ dx ≤ 536870912 := by omega
 have hd : dx ≠ 0 := by omega
 obtain ⟨s, hs⟩ : ∃ s, mkN dy dx = s := ⟨_, rfl⟩
 obtain ⟨t, ht⟩ : ∃ t, mkD dy dx = t := ⟨_, rfl⟩
 have bs := mkN_abs dy hd
 have bt := mkD_abs dy hd
 obtain ⟨m1, m2, m3⟩ := mk_spec (n := dy) hd
 have r1 := mk_right (n := dy) hd
 rw [hs] at bs m1 r1 m3
 rw [ht] at bt m1 m2 r1 m3
 have bs' : -536870912 ≤ s ∧ s ≤ 536870912 := by omega
 have bt' : 0 < t ∧ t ≤ 536870912 := by omega
 have pqs := mul_bound (u := q) (v := s) (B := 536870912) (C := 536870912) (by omega) (by omega) bs'.1 bs'.2
 obtain ⟨z, hz⟩ : ∃ z, q * s = z := ⟨_, rfl⟩
 rw [hz] at pqs
 obtain ⟨u, hu⟩ : ∃ g, mkN z (1 * t) = g := ⟨_, rfl⟩
 obtain ⟨v, hv⟩ : ∃ g, mkD z (1 * t) = g := ⟨_, rfl⟩
 have ht0 : (1 : Int) * t ≠ 0 := by omega
 have bu := mkN_abs z ht0
 have bv := mkD_abs z ht0
 obtain ⟨n1, n2, n3⟩ := mk_spec (n := z) ht0
 have r2 := mk_right (n := z) ht0
 rw [hu] at bu n1 r2
 rw [hv] at bv n1 n2 r2
 have bu' : -288230376151711744 ≤ u ∧ u ≤ 288230376151711744 := by omega
 have bv' : 0 < v ∧ v ≤ 536870912 := by omega
 have plv := mul_bound (u := ly) (v := v) (B := 268435456) (C := 536870912) h2.1 h2.2 (by omega) bv'.2
 obtain ⟨y, hy⟩ : ∃ y, ly * v = y := ⟨_, rfl⟩
 rw [hy] at plv
 have mk1 : Md (k * 1) := by unfold Md; omega
 have ml1 : Md (lx * 1) := by unfold Md; omega
 have mu1 : Md (u * 1) := by unfold Md; omega
 have my : Md y := by unfold Md; omega
 have m11 : Md ((1 : Int) * 1) := by unfold Md; omega
 have m11 : Md ((1 : Int) * 1) := by unfold Md; omega
 refine ⟨s, t, u, v, r1, r2, ⟨by unfold Md; omega, by unfold Md; omega⟩, ⟨by unfold Md; omega, by unfold Md; omega⟩, ⟨by rw [hq, hz]; unfold Md; omega, by unfold Md; omega, by rw [hy]; exact my, by rw [hy]; unfold Md; omega⟩, ?_, ?_, ?_, ?_, ?_⟩
 ·rw [hq]
  have h := mul_bound (u := q) (v := t) (B := 536870912) (C := 536870912) (by omega) (by omega) (by omega) bt'.2
  unfold Md; omega
 ·rw [hdy, hdx, mkV_ok hd (by unfold Md; omega) (by unfold Md; omega), hs, ht]
 ·rw [show k * 1 + -(lx * 1) = k - lx by omega, show (1 : Int) * 1 = 1 from rfl, mkV_ok (by omega) (by unfold Md; omega) (by unfold Md; omega), (mk_one (k - lx)).1, (mk_one (k - lx)).2]
  exact ⟨rfl, mkE_ok (by omega) (by unfold Md; omega) (by unfold Md; omega)⟩
 ·rw [hq, hz, mkV_ok ht0 (by unfold Md; omega) (by unfold Md; omega), hu, hv]
  exact ⟨rfl, mkE_ok ht0 (by unfold Md; omega) (by unfold Md; omega)⟩
 ·rw [hy]
  have hv1 : v * 1 ≠ 0 := by omega
  rw [mkV_ok hv1 (by unfold Md at *; omega) (by unfold Md; omega)]
  refine ⟨?_, mkE_ok hv1 (by unfold Md at *; omega) (by unfold Md; omega)⟩
  have hr := mk_right (n := u * 1 + y) hv1
  obtain ⟨f1, f2, f3⟩ := mk_spec (n := u * 1 + y) hv1
  have key : mkN (u * 1 + y) (v * 1) * dx = (q * dy + ly * dx) * mkD (u * 1 + y) (v * 1) := by
   generalize mkN (u * 1 + y) (v * 1) = N at *
   generalize mkD (u * 1 + y) (v * 1) = D at *
   have hvt : v * t ≠ 0 := fun h => by
    rcases Int.mul_eq_zero.1 h with h | h <;> omega
   apply Int.eq_of_mul_eq_mul_right hvt
   subst hy
   have g1 : N * v = (u + ly * v) * D := by grind
   have g2 : u * t = q * s * v := by rw [hz]; grind
   have g3 : s * dx = dy * t := by grind
   have : N * dx * (v * t) = (N * v) * dx * t := by grind
   rw [this, g1]
   have : (u + ly * v) * D * dx * t = D * ((u * t) * dx + ly * v * dx * t) := by grind
   rw [this, g2]
   have : q * s * v * dx = q * v * (s * dx) := by grind
   rw [this, g3]
   grind
  obtain ⟨e1, e2⟩ := mk_back hr hd key
  unfold atN atD atP_
  simp only
  rw [hq, hdy, hdx, e1, e2]
set_option maxRecDepth 100000 in
set_option maxHeartbeats 8000000 in
theorem fracS_any (n d : Int) (h1 : -4611686018427387904 ≤ n) (h2 : n ≤ 4611686018427387904) (h3 : -4611686018427387904 ≤ d) (h4 : d ≤ 4611686018427387904) (w : World) :
  Calls Tryz.prog 49 #[.int .i64 n, .int .i64 d] w fun e w' => e = .returned (mkV n d) ∧ Below w.heap.size w w' := by
 have hA := words_any n h1 h2
 have hB := words_any d h3 h4
 have hM := ref4Make_any n d (by unfold R256; omega) (by unfold R256; omega)
 obtain ⟨p, q, e⟩ := mkV_form n d
 rw [e] at hM ⊢
 generalize mkE n d = u at *
 clear e h1 h2 h3 h4
 have H := Own.start w
 go_enter Tryz.func49, Tryz.ntmps49
 have tk0 : True := trivial
 have tk1 : True := trivial
 go_wp2_with (first
  | (guard_target = bodyPost _ _ _ _ _ _; refine Stopped.out ?_)
  | (go_at_call 62; (with_reducible refine (hA _).mono ?_); rintro e w3 ⟨rfl, hb⟩; replace H := H.ext hb; clear hb; dsimp only)
  | (go_at_call 62; (with_reducible refine (hB _).mono ?_); rintro e w3 ⟨rfl, hb⟩; replace H := H.ext hb; clear hb; dsimp only)
  | (go_at_call 61; (with_reducible refine (hM _).mono ?_); rintro e w3 ⟨rfl, hb⟩; replace H := H.ext hb; clear hb; dsimp only)
  | (guard_target = wpList _ _ _ (_ :: _) _ _; (first | (refine a3e9400a ?_) | (refine ae4234ec ?_; clear H; (try clear w2); intro w2 H) | (refine a9e98dd6 ?_; intro b2; clear H; (try clear w2); intro w2 H; (first | (clear tk0; rename Nat => c1) | (clear tk1; rename Nat => c2))))))
 have hr := H.loadVarN (P := Tryz.prog) (ty := 106) (b := c1) (row := rL p q) (by simp) (by simp) (by simp [rL_length])
 exact ⟨bodyPost_ret (v := rV p q) (by simp [results, Tryz.results49, asAddr, hr, agg_rL]) rfl ⟨rfl, H.below⟩⟩
theorem frac_one (n : Int) (h1 : -4611686018427387904 ≤ n) (h2 : n ≤ 4611686018427387904) (w : World) :
  Calls Tryz.prog 49 #[.int .i64 n, .int .i64 1] w fun e w' => e = .returned (rV n 1) ∧ Below w.heap.size w w' := by
 have h := fracS_any n 1 h1 h2 (by omega) (by omega) w
 rwa [mkV_ok (by omega) (by unfold Md; omega) (by unfold Md; omega), (mk_one n).1, (mk_one n).2] at h
set_option maxRecDepth 200000 in
set_option maxHeartbeats 64000000 in
theorem refAtR_any (ax ay bx b_y k : Int) (h1 : -268435456 ≤ ax ∧ ax ≤ 268435456) (h2 : -268435456 ≤ ay ∧ ay ≤ 268435456) (h3 : -268435456 ≤ bx ∧ bx ≤ 268435456) (h4 : -268435456 ≤ b_y ∧ b_y ≤ 268435456)
  (hk : ax ≤ k ∧ k ≤ bx) (hl : ax < bx) (w : World) :
  Calls Tryz.prog 50 #[pV ax ay, pV bx b_y, rV k 1] w fun e w' => e = .returned (.tuple #[rV (atN ⟨ax, ay⟩ ⟨bx, b_y⟩ k) (atD ⟨ax, ay⟩ ⟨bx, b_y⟩ k), .int .i64 0]) ∧ Below w.heap.size w w' := by
 obtain ⟨s, t, u, v, W⟩ := at_w h1 h2 h3 h4 hk hl
 have hI1 := refIn_any ax ay
 have hI2 := refIn_any bx b_y
 rw [in_t ⟨h1, h2⟩] at hI1
 rw [in_t ⟨h3, h4⟩] at hI2
 have hR := ref4Right_any k 1 (by unfold R256; omega) (by unfold R256; omega)
 rw [show decide ((0 : Int) < 1 ∧ gcdZ k 1 = 1) = ratB k 1 from rfl, right_one] at hR
 have hFa := frac_one ax (by omega) (by omega)
 have hFb := frac_one bx (by omega) (by omega)
 have hFc := frac_one ay (by omega) (by omega)
 have hFd := fracS_any (b_y - ay) (bx - ax) (by omega) (by omega) (by omega) (by omega)
 rw [W.e1] at hFd
 have hC1 := ref4Cmp_any k 1 ax 1 (by unfold R256; omega) (by unfold R256; omega) (by unfold R256; omega) (by unfold R256; omega)
 have hC2 := ref4Cmp_any k 1 bx 1 (by unfold R256; omega) (by unfold R256; omega) (by unfold R256; omega) (by unfold R256; omega)
 obtain ⟨z1, e1⟩ : ∃ z, cmpZW (k * 1) (ax * 1) = z := ⟨_, rfl⟩
 obtain ⟨z2, e2⟩ : ∃ z, cmpZW (k * 1) (bx * 1) = z := ⟨_, rfl⟩
 have g1 : decide (z1 < 0) = false := by rw [← e1]; unfold cmpZW; simp; split <;> omega
 have g2 : decide (0 < z2) = false := by rw [← e2]; unfold cmpZW; simp; split <;> (try split) <;> omega
 rw [e1] at hC1
 rw [e2] at hC2
 have hD1 := do4_any 1 k 1 ax 1 (k * 1 + -(ax * 1)) (.inr (.inl ⟨rfl, rfl⟩)) (by unfold R256; omega) (by unfold R256; omega) (by unfold R256; omega) (by unfold R256; omega) (right_one k) (right_one ax) (by unfold R256; omega) (by unfold R256; omega) (by unfold R256; omega) (by unfold R256; omega)
 rw [W.e2.1, W.e2.2] at hD1
 have hD2 := do4_any 2 (k - ax) 1 s t ((k - ax) * s) (.inr (.inr ⟨rfl, rfl⟩)) (by unfold R256; omega) (by unfold R256; omega) W.ms.1.fits W.ms.2.fits (right_one _) W.r1 W.mt.fits (by rw [Int.mul_one]; exact W.ms.1.fits) W.mz.1.fits W.mz.2.1.fits
 rw [W.e3.1, W.e3.2] at hD2
 have hD0 := do4_any 0 u v ay 1 (u * 1 + ay * v) (.inl ⟨rfl, rfl⟩) W.mu.1.fits W.mu.2.fits (by unfold R256; omega) (by unfold R256; omega) W.r2 (right_one ay) (by rw [Int.mul_one]; exact W.mu.1.fits) W.mz.2.2.1.fits W.mz.2.2.2.fits (by rw [Int.mul_one]; exact W.mu.2.fits)
 rw [W.e4.1, W.e4.2] at hD0
 generalize atN ⟨ax, ay⟩ ⟨bx, b_y⟩ k = p at *
 generalize atD ⟨ax, ay⟩ ⟨bx, b_y⟩ k = q at *
 obtain ⟨dq, edq⟩ : ∃ z, k - ax = z := ⟨_, rfl⟩
 rw [edq] at hD1 hD2
 have gx : (ax == bx) = false := by simp; omega
 have gt : decide (bx < ax) = false := by simp; omega
 have sy : -9223372036854775808 ≤ b_y - ay ∧ b_y - ay < 9223372036854775808 := by omega
 have sx : -9223372036854775808 ≤ bx - ax ∧ bx - ax < 9223372036854775808 := by omega
 clear W e1 e2 edq hk hl h1 h2 h3 h4
 have H := Own.start w
 go_enter Tryz.func50, Tryz.ntmps50
 have tk0 : True := trivial
 have tk1 : True := trivial
 have tk2 : True := trivial
 have tk3 : True := trivial
 have tk4 : True := trivial
 have tk5 : True := trivial
 have tk6 : True := trivial
 go_wp2_with (first
  | (guard_target = bodyPost _ _ _ _ _ _; refine Stopped.out ?_)
  | (guard_target = Code.wp _ (Code.region 11 _ true) _ _ _; refine at5r1 ?_; clear H; (try clear w2); intro w2 H)
  | (guard_target = Code.wp _ (Code.region 8 _ true) _ _ _; refine at5r2 ?_; clear H; (try clear w2); intro w2 H)
  | (guard_target = Code.wp _ (Code.region 14 _ true) _ _ _; replace H:Own _ _ _ (Res.cells c4 _ :: _) := aF; refine at5r3 ?_; clear H; (try clear w2); intro w2 H)
  | (guard_target = Code.wp _ (Code.region 6 _ true) _ _ _; refine at5r4 ?_; clear H; (try clear w2); intro w2 H)
  | (go_at_call 18; (with_reducible refine (hI1 _).mono ?_); rintro e w3 ⟨rfl, hb⟩; replace H := H.ext hb; clear hb; dsimp only; (skip))
  | (go_at_call 18; (with_reducible refine (hI2 _).mono ?_); rintro e w3 ⟨rfl, hb⟩; replace H := H.ext hb; clear hb; dsimp only; (skip))
  | (go_at_call 63; (with_reducible refine (hR _).mono ?_); rintro e w3 ⟨rfl, hb⟩; replace H := H.ext hb; clear hb; dsimp only; (skip))
  | ((first | guard_target = wpList _ _ _ (_ :: _) _ _ | guard_target = wpTreeC _ _ _ _ _ _ _); (first | (refine at5g4 ?_) | (refine at5g7 ?_; clear H; (try clear w2); intro w2 H) | (refine a661b7f6 ?_; intro b2; clear H; (try clear w2); intro w2 H; (first | (clear tk0; rename Nat => c1) | (clear tk1; rename Nat => c2) | (clear tk2; rename Nat => c3) | (clear tk3; rename Nat => c4) | (clear tk4; rename Nat => c5) | (clear tk5; rename Nat => c6) | (clear tk6; rename Nat => c7))) | (guard_target = wpTreeC _ _ _ (Tr.q _ _) _ _ _; (with_reducible refine treeC_call (v := ?_) (o := ?_) (aK H) ?_ ?_ (fun w3 H K hK => ?_) ?_); rotate_left 2; exact rfl; exact rfl; (focus (simp only [List.getElem_toArray, List.getElem_cons_succ, List.getElem_cons_zero]; (go_big_op; (first | (go_at_call 49; (with_reducible refine (hFa _).mono ?_); rintro e w3 ⟨rfl, hb⟩; dsimp only; exact aE) | (go_at_call 49; (with_reducible refine (hFb _).mono ?_); rintro e w3 ⟨rfl, hb⟩; dsimp only; exact aE) | (go_at_call 49; (with_reducible refine (hFc _).mono ?_); rintro e w3 ⟨rfl, hb⟩; dsimp only; exact aE) | (go_at_call 49; (with_reducible refine (hFd _).mono ?_); rintro e w3 ⟨rfl, hb⟩; dsimp only; exact aE) | (go_at_call 51; (with_reducible refine (hC1 _).mono ?_); rintro e w3 ⟨rfl, hb⟩; dsimp only; exact aE) | (go_at_call 51; (with_reducible refine (hC2 _).mono ?_); rintro e w3 ⟨rfl, hb⟩; dsimp only; exact aE) | (go_at_call 64; (with_reducible refine (hD1 _).mono ?_); rintro e w3 ⟨rfl, hb⟩; dsimp only; exact aE) | (go_at_call 64; (with_reducible refine (hD2 _).mono ?_); rintro e w3 ⟨rfl, hb⟩; dsimp only; exact aE) | (go_at_call 64; (with_reducible refine (hD0 _).mono ?_); rintro e w3 ⟨rfl, hb⟩; dsimp only; exact aE))))); refine a7c8e4b2 ?_) | (guard_target = wpTreeC _ _ _ Tr.nil _ _ _; refine treeC_nil H ?_; clear H; (try clear w2); intro w2 H))))
 all_goals
  have hr := H.loadVarN (P := Tryz.prog) (ty := 106) (b := c4) (row := rL p q) (by simp) (by simp) (by simp [rL_length])
  exact ⟨bodyPost_ret (v := .tuple #[rV p q, .int .i64 0]) (by simp [results, Tryz.results50, asAddr, hr, agg_rL]) rfl ⟨rfl, H.below⟩⟩
end Go.Proofs.YtlhmjhildlnokaaGreat
namespace Go.Proofs.YtlhmjhildlnokaaGreat
set_option linter.unusedVariables false
set_option linter.unusedSimpArgs false
open Go.RowKit Go.Sort Go.Shelf
variable {vs : List Vt} {es : List Eg} {S : List (Int × Sg)} {N : List Nd} {P : List Pc} {X : IxS} {os : List Int} {q : Pt} {t : Tz}
theorem seg_in (H : RightP vs es) {id x y : Int} (h : (⟨id, x, y⟩ : Eg) ∈ es) : InP (segZ vs x y).a ∧ InP (segZ vs x y).b := by
 have e := seg_ends H h
 simp only at e
 rw [e]
 have := edge_in H h
 exact ⟨this.1, this.2.1⟩
variable {S : List (Int × Sg)}
def numY (s : Sg) (k : Int) : Int := (k - s.a.x) * (s.b.y - s.a.y) + s.a.y * (s.b.x - s.a.x)
def denY (s : Sg) : Int := s.b.x - s.a.x
def Yq (s : Sg) (k : Int) : Rat := (numY s k : Rat) / (denY s : Rat)
def higherB (s t : Sg) (k : Int) : Bool :=
 if numY s k * denY t = numY t k * denY s then (if s.b = t.b then decide (turnZ s.a s.b t.a < 0) else decide (0 < turnZ s.a t.b s.b)) else decide (numY t k * denY s < numY s k * denY t)
theorem cast_pos {n : Int} (h : 0 < n) : (0 : Rat) < (n : Rat) := by
 have := Rat.intCast_lt_intCast.2 h
 simpa using this
structure Flat (s : Sg) : Prop where
 ia : InP s.a
 ib : InP s.b
 dx : s.a.x < s.b.x
theorem Flat.xl {s : Sg} (h : Flat s) : Xr s.a < Xr s.b := by
 have h1 := h.ia; have h2 := h.ib; have h3 := h.dx
 unfold InP at h1 h2
 unfold Xr Xi
 exact Rat.intCast_lt_intCast.2 (by omega)
theorem Flat.gap {s : Sg} (h : Flat s) : 0 < 1 - (lnS s).m := by
 have hx := h.xl
 have h3 := cast_pos (show 0 < 1073741824 * denY s by have := h.dx; unfold denY; omega)
 have e : Xr s.b - Xr s.a = (1073741824 * denY s : Int) + (Yr s.b - Yr s.a) := by
  unfold Xr Xi Yr denY
  simp only [Rat.intCast_add, Rat.intCast_mul, Rat.intCast_sub]
  grind
 have hp : 0 < Xr s.b - Xr s.a := by grind
 have hm : (lnS s).m * (Xr s.b - Xr s.a) = Yr s.b - Yr s.a := by
  unfold Ln.m lnS lnOf
  simp only
  exact Rat.div_mul_cancel (by grind)
 refine rat_pos_of_mul (b := Xr s.b - Xr s.a) ?_ hp
 grind
def Xq (k : Int) (y : Rat) : Rat := ((k * 1073741824 : Int) : Rat) + y
theorem Xr_Xq (q : Pt) : Xr q = Xq q.x (Yr q) := by
 unfold Xr Xi Xq Yr
 simp only [Rat.intCast_add]
theorem Flat.yd {s : Sg} (h : Flat s) (k : Int) : Yq s k * (denY s : Rat) = (numY s k : Rat) := by
 have := cast_pos (show 0 < denY s by have := h.dx; unfold denY; omega)
 exact Rat.div_mul_cancel (by grind)
theorem Flat.at {s : Sg} (h : Flat s) (k : Int) : (lnS s).at (Xq k (Yq s k)) = Yq s k := by
 have hx := h.xl
 have hd := cast_pos (show 0 < denY s by have := h.dx; unfold denY; omega)
 have hy := h.yd k
 have hp : 0 < Xr s.b - Xr s.a := by grind
 have hm : (lnS s).m * (Xr s.b - Xr s.a) = Yr s.b - Yr s.a := by
  unfold Ln.m lnS lnOf
  simp only
  exact Rat.div_mul_cancel (by grind)
 have e1 : Xr s.b - Xr s.a = 1073741824 * (denY s : Rat) + (Yr s.b - Yr s.a) := by
  unfold Xr Xi Yr denY
  simp only [Rat.intCast_add, Rat.intCast_mul, Rat.intCast_sub]
  grind
 have e2 : (numY s k : Rat) = (((k : Rat) - (s.a.x : Rat)) * (Yr s.b - Yr s.a) + Yr s.a * (denY s : Rat)) := by
  unfold numY denY Yr
  simp only [Rat.intCast_add, Rat.intCast_mul, Rat.intCast_sub]
 have e3 : Xq k (Yq s k) - Xr s.a = 1073741824 * ((k : Rat) - (s.a.x : Rat)) + (Yq s k - Yr s.a) := by
  unfold Xq Xr Xi Yr
  simp only [Rat.intCast_add, Rat.intCast_mul]
  grind
 have key : ((lnS s).at (Xq k (Yq s k)) - Yq s k) * ((denY s : Rat) * (Xr s.b - Xr s.a)) = 0 := by
  have e4 : (lnS s).at (Xq k (Yq s k)) = Yr s.a + (lnS s).m * (Xq k (Yq s k) - Xr s.a) := rfl
  rw [e4, e3]
  generalize (lnS s).m = m at *
  generalize Yq s k = Y at *
  generalize (denY s : Rat) = D at *
  generalize Xr s.b - Xr s.a = W at *
  generalize ((k : Rat) - (s.a.x : Rat)) = K at *
  generalize Yr s.a = y1 at *
  generalize Yr s.b = y2 at *
  rw [e2] at hy
  have f1 : (Y - y1) * D = K * (y2 - y1) := by grind
  have f2 : (y1 + m * (1073741824 * K + (Y - y1)) - Y) * (D * W) = (m * W) * (1073741824 * K * D + (Y - y1) * D) - (Y - y1) * D * W := by grind
  rw [f2, hm, f1, e1]
  grind
 have := rat_zero_of_mul key (rat_mul_pos hd hp)
 grind
theorem Flat.near {s : Sg} (h : Flat s) {k : Int} (h1 : s.a.x ≤ k) (h2 : k ≤ s.b.x) : (lnS s).near (Xq k (Yq s k)) := by
 have hd := cast_pos (show 0 < denY s by have := h.dx; unfold denY; omega)
 have hy := h.yd k
 have hx := h.xl
 have hp : 0 < Xr s.b - Xr s.a := by grind
 have e1 : Xr s.b - Xr s.a = 1073741824 * (denY s : Rat) + (Yr s.b - Yr s.a) := by
  unfold Xr Xi Yr denY
  simp only [Rat.intCast_add, Rat.intCast_mul, Rat.intCast_sub]
  grind
 have e2 : (numY s k : Rat) = (((k : Rat) - (s.a.x : Rat)) * (Yr s.b - Yr s.a) + Yr s.a * (denY s : Rat)) := by
  unfold numY denY Yr
  simp only [Rat.intCast_add, Rat.intCast_mul, Rat.intCast_sub]
 have e3 : Xq k (Yq s k) - Xr s.a = 1073741824 * ((k : Rat) - (s.a.x : Rat)) + (Yq s k - Yr s.a) := by
  unfold Xq Xr Xi Yr
  simp only [Rat.intCast_add, Rat.intCast_mul]
  grind
 have k0 : 0 ≤ (k : Rat) - (s.a.x : Rat) := by have := Rat.intCast_le_intCast.2 h1; grind
 have k1 : 0 ≤ (denY s : Rat) - ((k : Rat) - (s.a.x : Rat)) := by
  have := Rat.intCast_le_intCast.2 h2
  have e : (denY s : Rat) = (s.b.x : Rat) - (s.a.x : Rat) := by unfold denY; rw [Rat.intCast_sub]
  grind
 have f1 : (Xq k (Yq s k) - Xr s.a) * (denY s : Rat) = ((k : Rat) - (s.a.x : Rat)) * (Xr s.b - Xr s.a) := by
  rw [e3, e1]
  rw [e2] at hy
  grind
 have lo : ¬ Xq k (Yq s k) < Xr s.a := fun q => by
  have := rat_mul_pos (by grind : 0 < Xr s.a - Xq k (Yq s k)) hd
  have := Rat.mul_nonneg k0 (Rat.le_of_lt hp)
  grind
 have hi : ¬ Xr s.b < Xq k (Yq s k) := fun q => by
  have := rat_mul_pos (by grind : 0 < Xq k (Yq s k) - Xr s.b) hd
  have := Rat.mul_nonneg k1 (Rat.le_of_lt hp)
  grind
 exact ⟨show Xr s.a ≤ _ by grind, show _ ≤ Xr s.b by grind⟩
structure Below_ (s : Sg) (q : Pt) : Prop where
 flat : Flat s
 sp : (lnS s).spans (Xr q)
 lt : (lnS s).at (Xr q) < Yr q
theorem Below_.of {s : Sg} {q : Pt} (ia : InP s.a) (ib : InP s.b) (iq : InP q) (sp : (lnS s).spans (Xr q)) (lt : (lnS s).at (Xr q) < Yr q) : Below_ s q := by
 refine ⟨⟨ia, ib, ?_⟩, sp, lt⟩
 have h1 : Xr s.a < Xr q := sp.1
 have h2 : Xr q < Xr s.b := sp.2
 have h3 := (less_Xr ia iq).2 h1
 have h4 := (less_Xr iq ib).2 h2
 by_cases h : s.a.x < s.b.x
 ·exact h
 exfalso
 have hab : Xr s.a < Xr s.b := by grind
 have hc := (at_pos hab q).1 lt
 unfold LessP at h3 h4
 have e1 : s.a.x = q.x := by omega
 have e2 : s.b.x = q.x := by omega
 unfold crossZ at hc
 rw [e1, e2] at hc
 simp at hc
theorem Below_.xs {s : Sg} {q : Pt} (iq : InP q) (h : Below_ s q) : s.a.x ≤ q.x ∧ q.x ≤ s.b.x := by
 have h1 : Xr s.a < Xr q := h.sp.1
 have h2 : Xr q < Xr s.b := h.sp.2
 have h3 := (less_Xr h.flat.ia iq).2 h1
 have h4 := (less_Xr iq h.flat.ib).2 h2
 unfold LessP at h3 h4
 omega
theorem Below_.gapE {s : Sg} {q : Pt} (h : Below_ s q) : Yr q - (lnS s).at (Xr q) = (Yr q - Yq s q.x) * (1 - (lnS s).m) ∧ Yq s q.x < Yr q := by
 have e := h.flat.at q.x
 have a := (lnS s).affine (Xq q.x (Yq s q.x)) (Xr q)
 rw [e, Xr_Xq] at a
 have e1 : Xq q.x (Yr q) - Xq q.x (Yq s q.x) = Yr q - Yq s q.x := by unfold Xq; grind
 rw [e1] at a
 have g := h.flat.gap
 have lt := h.lt
 rw [Xr_Xq] at lt ⊢
 have k : Yr q - (lnS s).at (Xq q.x (Yr q)) = (Yr q - Yq s q.x) * (1 - (lnS s).m) := by grind
 refine ⟨k, ?_⟩
 have : 0 < Yr q - Yq s q.x := rat_pos_of_mul (b := 1 - (lnS s).m) (by grind) g
 grind
theorem yq_lt {s t : Sg} (hs : Flat s) (ht : Flat t) (k : Int) : Yq t k < Yq s k ↔ numY t k * denY s < numY s k * denY t := by
 have ds := cast_pos (show 0 < denY s by have := hs.dx; unfold denY; omega)
 have dt := cast_pos (show 0 < denY t by have := ht.dx; unfold denY; omega)
 have ys := hs.yd k
 have yt := ht.yd k
 rw [← Rat.intCast_lt_intCast, Rat.intCast_mul, Rat.intCast_mul, ← ys, ← yt]
 generalize Yq s k = a at *
 generalize Yq t k = b at *
 generalize (denY s : Rat) = d at *
 generalize (denY t : Rat) = e at *
 have p := rat_mul_pos ds dt
 constructor
 ·intro h
  have := rat_mul_pos (by grind : 0 < a - b) p
  grind
 ·intro h
  have : 0 < (a - b) * (d * e) := by grind
  have := rat_pos_of_mul this p
  grind
theorem higher_lt (O : SOk S) {id id' : Int} {s t : Sg} (hs : (id, s) ∈ S) (ht : (id', t) ∈ S) (hne : (id, s) ≠ (id', t)) {q : Pt} (iq : InP q) (bs : Below_ s q) (bt : Below_ t q) (h : Yq t q.x < Yq s q.x) : (lnS t).at (Xr q) < (lnS s).at (Xr q) := by
 have sep := O.sep _ ht _ hs (fun e => hne e.symm)
 simp only at sep
 obtain ⟨xs1, xs2⟩ := bs.xs iq
 obtain ⟨xt1, xt2⟩ := bt.xs iq
 have ns := bs.flat.near xs1 xs2
 have nt := bt.flat.near xt1 xt2
 have ys := bs.gapE.2
 have es := bs.flat.at q.x
 have et := bt.flat.at q.x
 have gt := bt.flat.gap
 have spt : Xr q < Xr t.b := bt.sp.2
 have n1 : Xr t.a ≤ Xq q.x (Yq t q.x) := nt.1
 have nt2 : (lnS t).near (Xq q.x (Yq s q.x)) := by
  rw [Xr_Xq] at spt
  have e1 : Xq q.x (Yq t q.x) < Xq q.x (Yq s q.x) := by unfold Xq; grind
  have e2 : Xq q.x (Yq s q.x) < Xq q.x (Yr q) := by unfold Xq; grind
  exact ⟨show Xr t.a ≤ _ by grind, show _ ≤ Xr t.b by grind⟩
 have a := (lnS t).affine (Xq q.x (Yq t q.x)) (Xq q.x (Yq s q.x))
 have e1 : Xq q.x (Yq s q.x) - Xq q.x (Yq t q.x) = Yq s q.x - Yq t q.x := by unfold Xq; grind
 rw [et, e1] at a
 have p := rat_mul_pos (by grind : 0 < Yq s q.x - Yq t q.x) gt
 have lt : (lnS t).at (Xq q.x (Yq s q.x)) < (lnS s).at (Xq q.x (Yq s q.x)) := by rw [es]; grind
 exact (sep.ends bt.sp bs.sp nt2 ns (by grind)).2 lt
theorem higher_iff (O : SOk S) {id id' : Int} {s t : Sg} (hs : (id, s) ∈ S) (ht : (id', t) ∈ S) (hne : (id, s) ≠ (id', t)) {q : Pt} (iq : InP q) (bs : Below_ s q) (bt : Below_ t q) : higherB s t q.x = true ↔ (lnS t).at (Xr q) < (lnS s).at (Xr q) := by
 have sep := O.sep _ hs _ ht hne
 simp only at sep
 have nsep := sep (Xr q) bs.sp bt.sp
 unfold higherB
 by_cases e : numY s q.x * denY t = numY t q.x * denY s
 ·rw [if_pos e]
  have ey : Yq s q.x = Yq t q.x := by
   have h1 := yq_lt bs.flat bt.flat q.x
   have h2 := yq_lt bt.flat bs.flat q.x
   have n1 : ¬ Yq t q.x < Yq s q.x := fun h => by have := h1.1 h; omega
   have n2 : ¬ Yq s q.x < Yq t q.x := fun h => by have := h2.1 h; omega
   grind
  obtain ⟨xs1, xs2⟩ := bs.xs iq
  obtain ⟨xt1, xt2⟩ := bt.xs iq
  have ns := bs.flat.near xs1 xs2
  have nt := bt.flat.near xt1 xt2
  have es := bs.flat.at q.x
  have et := bt.flat.at q.x
  have ys := bs.gapE.2
  rw [← ey] at nt et
  have xlt : Xq q.x (Yq s q.x) < Xr q := by rw [Xr_Xq]; unfold Xq; grind
  have sb : Xr q < Xr s.b := bs.sp.2
  have tb : Xr q < Xr t.b := bt.sp.2
  have sa : Xr s.a ≤ Xq q.x (Yq s q.x) := ns.1
  have ta : Xr t.a ≤ Xq q.x (Yq s q.x) := nt.1
  have hs1 := (O.ln1 hs).2.1
  have ht1 := (O.ln1 ht).2.1
  simp only at hs1 ht1
  have both : Xr s.a = Xq q.x (Yq s q.x) ∧ Xr t.a = Xq q.x (Yq s q.x) := by
   by_cases c1 : Xr s.a = Xq q.x (Yq s q.x)
   ·refine ⟨c1, ?_⟩
    by_cases c2 : Xr t.a = Xq q.x (Yq s q.x)
    ·exact c2
    ·exfalso
     have sp : (lnS t).spans (Xr s.a) := ⟨show Xr t.a < Xr s.a by grind, show Xr s.a < Xr t.b by grind⟩
     have := O.off _ ht _ hs s.a (.inl rfl) sp
     simp only at this
     rw [c1] at hs1 this
     grind
   ·exfalso
    by_cases c2 : Xr t.a = Xq q.x (Yq s q.x)
    ·have sp : (lnS s).spans (Xr t.a) := ⟨show Xr s.a < Xr t.a by grind, show Xr t.a < Xr s.b by grind⟩
     have := O.off _ hs _ ht t.a (.inl rfl) sp
     simp only at this
     rw [c2] at ht1 this
     grind
    ·exact sep (Xq q.x (Yq s q.x)) ⟨show Xr s.a < _ by grind, show _ < Xr s.b by grind⟩ ⟨show Xr t.a < _ by grind, show _ < Xr t.b by grind⟩ (by grind)
  have eab : s.a = t.a := Xi_inj bs.flat.ia bt.flat.ia (Xr_eq.1 (by rw [both.1, both.2]))
  have nb : s.b ≠ t.b := fun h => by
   have : lnS s = lnS t := by unfold lnS; rw [eab, h]
   rw [this] at nsep
   exact nsep rfl
  rw [if_neg nb, decide_eq_true_eq]
  have hat : Xr s.a < Xr t.b := by rw [eab]; exact bt.flat.xl
  have tz : turnZ s.a t.b s.b = turnB s.a t.b s.b := (turnB_in bs.flat.ia bt.flat.ib bs.flat.ib).symm
  rw [tz, (turn_sign (c := s.b) bs.flat.ia bt.flat.ib bs.flat.ib hat).1]
  have e2 : lnOf s.a t.b = lnS t := by unfold lnS; rw [eab]
  rw [e2]
  have hs2 := (O.ln1 hs).2.2
  simp only at hs2
  rw [← hs2]
  have e0 : (lnS t).at (Xr s.a) = (lnS s).at (Xr s.a) := by rw [hs1, eab]; exact ht1
  exact Ln.fan_r e0 (by have := bs.flat.xl; grind) bs.sp.1
 ·rw [if_neg e, decide_eq_true_eq]
  by_cases c : numY t q.x * denY s < numY s q.x * denY t
  ·have := higher_lt O hs ht hne iq bs bt ((yq_lt bs.flat bt.flat q.x).2 c)
   exact ⟨fun _ => this, fun _ => c⟩
  ·have c' : numY s q.x * denY t < numY t q.x * denY s := by omega
   have := higher_lt O ht hs (fun e => hne e.symm) iq bt bs ((yq_lt bt.flat bs.flat q.x).2 c')
   exact ⟨fun h => absurd h c, fun h => absurd h (by grind)⟩
end Go.Proofs.YtlhmjhildlnokaaGreat
namespace Go.Proofs.YtlhmjhildlnokaaGreat
set_option linter.unusedVariables false
set_option linter.unusedSimpArgs false
open Go.RowKit
theorem plan6br1 {P Q : Prop} (k : Q) (h : Hold Q → InR 1 1 (.q 0 (.q 1 (.q 2 (.q 3 (.e 4 (.q 5 (.q 6 (.q 7 (.e 8 .nil))))))))) P := by exact aR) : P := h ⟨k⟩
set_option maxRecDepth 100000 in
set_option maxHeartbeats 8000000 in
theorem refAt_any (vs : List Vt) (A A2 : Option Addr) (n m : Nat) (c c2 : Nat) (F : Nat → Prop) (id i x y : Int) (w : World) (hn : n = vs.length) (hs : Sl F w A (vR vs)) (hl : n ≤ 1000000) (he : (vs.find? fun v => v.id == id) = some ⟨i, ⟨x, y⟩⟩) :
  Calls Tryz.prog 22 #[.agg #[.slice A n c, .slice A2 m c2], .int .i64 id] w fun e w' => e = .returned (pV x y) ∧ Below w.heap.size w w' := by
 obtain ⟨b0, o0, H, f0⟩ := (Own.start w).addSl (hs.ro (by rfl))
 clear hs
 subst hn
 obtain ⟨k, hk, hv⟩ := find_idx he
 have hrv := fun F w h => refVertex_any vs A A2 vs.length m c c2 F id w rfl h hl
 rw [hk] at hrv
 simp only [ixZ] at hrv
 have hkl : k < vs.length := (List.getElem?_eq_some_iff.1 hv).1
 obtain rfl := H.rdAddr m0 (vR_pos hv)
 have hp := at_vp (A := some ⟨b0, o0, none⟩) (b := b0) (off := o0) hv
 clear hk hv he
 go_enter Tryz.func22, Tryz.ntmps22
 have tk0 : True := trivial
 have tk1 : True := trivial
 go_wp2_with (first
  | (guard_target = Code.wp _ (Code.region 1 _ true) _ _ _; refine plan6br1 ?_; clear H; (try clear w2); intro w2 H)
  | (go_at_call 19; (with_reducible refine (hrv _ _ (aD f0)).mono ?_); rintro e w3 ⟨rfl, hb⟩; replace H := H.ext hb; clear hb; dsimp only; (refine a8c34bfe ?_; clear hK K))
  | ((first | guard_target = wpList _ _ _ (_ :: _) _ _ | guard_target = wpTree _ _ _ _ _ _ _); (first | (refine aa335462 ?_) | (refine a43dfdd6 ?_; clear H; (try clear w2); intro w2 H) | (refine a32a6bca ?_; intro b2; clear H; (try clear w2); intro w2 H; (first | (clear tk0; rename Nat => b1) | (clear tk1; rename Nat => b2))) | (guard_target = wpTree _ _ _ Tr.nil _ _ _; refine tree_nil ?_) | (refine ace93fc0 ?_; intro K hK))))
 have hr := H.loadVarN (P := Tryz.prog) (ty := 28) (b := b2) m0 (by simp) (by simp)
 exact bodyPost_ret (v := pV x y) (by simp [results, Tryz.results22, asAddr, hr]) rfl ⟨rfl, H.below⟩
end Go.Proofs.YtlhmjhildlnokaaGreat
