/-
  The statements of layer 3: which of two products is greater.
-/
import Derived.Test.YtdgpdafkngoegaaLaw03a
import Derived.Test.YtdgpdafkngoegaaRef03h
import Derived.Test.YtdgpdafkngoegaaRef03e
import Derived.Test.YtdgpdafkngoegaaRef03m
import Derived.Test.YtdgpdafkngoegaaWide18
import Derived.Test.YtdgpdafkngoegaaFit
namespace Go.Proofs.Ytdgpdafkngoegaa
set_option linter.unusedVariables false
set_option linter.unusedSimpArgs false
open Go.RowKit

set_option maxRecDepth 100000 in
set_option maxHeartbeats 8000000 in
theorem law_WideHolds (x y z t : Int) (w : World) (hx : R256 x) (hy : R256 y) (hz : R256 z) (ht : R256 t) : Calls Try.prog 13 #[iV x, iV y, iV z, iV t] w fun e w' => e = .returned (.bool true) ∧ Below w.heap.size w w' := by
  have H := Own.start w
  have hn := fun w => Above_any x y z t hx hy hz ht w
  have hF : ∀ k : Nat, (fun _ : Nat => False) k → k < w.heap.size := fun k h => h.elim
  have hM := fun F w hF A1 A2 k1 k2 a b ha hb ga gb => refMul_any F w hF A1 A2 k1 k2 a b x y ha hb ga gb (fit450 hx ga) (fit450 hy gb)
  have hM2 := fun F w hF A1 A2 k1 k2 a b ha hb ga gb => refMul_any F w hF A1 A2 k1 k2 a b z t ha hb ga gb (fit450 hz ga) (fit450 ht gb)
  have hC := fun F w hF A1 A2 c1 c2 a b ha hb ga gb => refCmp_any F w hF A1 A2 c1 c2 a b (x * y) (z * t) ha hb ga gb (fit1000 (wide_mul hx hy) ga) (fit1000 (wide_mul hz ht) gb)
  obtain ⟨p, hp⟩ : ∃ p, x * y = p := ⟨_, rfl⟩
  obtain ⟨q, hq⟩ : ∃ q, z * t = q := ⟨_, rfl⟩
  have e : cmpR p q = cmpZ p q := rfl
  rw [hp] at hn hM hC
  rw [hq] at hn hM2 hC
  rw [e] at hC
  obtain ⟨c, hc⟩ : ∃ c, cmpZ p q = c := ⟨_, rfl⟩
  rw [hc] at hn hC
  clear hp hq e hc
  go_enter Try.func13, Try.ntmps13
  have tk0 : True := trivial
  have tk1 : True := trivial
  have tk2 : True := trivial
  have tk3 : True := trivial
  have tk4 : True := trivial
  go_wp2_with (first
    | (guard_target =~ Code.wp _ (Code.region 1 _ true) _ _ _; refine region_tree0 1 (G := True) (.e 0 (.q 1 (.q 2 (.q 3 (.q 4 (.q 5 (.q 7 (.q 9 (.q 12 (.q 14 (.e 6 (.e 8 (.e 10 (.e 11 (.e 13 (.e 15 (.e 16 (.e 17 (.q 18 (.q 19 (.q 20 .nil))))))))))))))))))))) (by kernel_rfl) (by intro c a d v w h; cases d <;> exact h) (by kernel_rfl) H ⟨trivial⟩ (fun _ w3 H2 => ?_); (clear H; (try clear w2); revert w3; intro w2 H))
    | (go_at_call 32; (with_reducible refine (awake_any _).mono ?_); rintro e w3 ⟨rfl, hb⟩; replace H := H.ext hb; clear hb; dsimp only; (refine hK _ _ ⟨_, H, by repeat first | exact .here | apply Suf.there⟩ ?_; clear hK K; (try simp only [Act.put, List.setIfInBounds_toArray, List.set_cons_succ, List.set_cons_zero, cells_iV, iL_length, setL_i, setL_ii, agg_iL])))
    | (go_at_call 57; (with_reducible refine (hn _).mono ?_); rintro e w3 ⟨rfl, hb⟩; replace H := H.ext hb; clear hb; dsimp only; (refine hK _ _ ⟨_, H, by repeat first | exact .here | apply Suf.there⟩ ?_; clear hK K; (try simp only [Act.put, List.setIfInBounds_toArray, List.set_cons_succ, List.set_cons_zero, cells_iV, iL_length, setL_i, setL_ii, agg_iL])))
    | (go_at_call 34; (with_reducible refine (refFrom_any (FW (fun _ => False) _) _ (H.fw_lt rfl hF) x hx).mono ?_); rintro e w3 ⟨A5, k5, l5, rfl, hb, s5, g5, q5, p5⟩; replace H := H.ext hb; clear hb; obtain ⟨b5, o5, H4, f5⟩ := H.addSl s5; clear H s5; have H := H4; clear H4; dsimp only; (refine hK _ _ ⟨_, H, by repeat first | exact .here | apply Suf.there⟩ ?_; clear hK K; (try simp only [Act.put, List.setIfInBounds_toArray, List.set_cons_succ, List.set_cons_zero, cells_iV, iL_length, setL_i, setL_ii, agg_iL])))
    | (go_at_call 34; (with_reducible refine (refFrom_any (FW (fun _ => False) _) _ (H.fw_lt rfl hF) y hy).mono ?_); rintro e w3 ⟨A6, k6, l6, rfl, hb, s6, g6, q6, p6⟩; replace H := H.ext hb; clear hb; obtain ⟨b6, o6, H4, f6⟩ := H.addSl s6; clear H s6; have H := H4; clear H4; dsimp only; (refine hK _ _ ⟨_, H, by repeat first | exact .here | apply Suf.there⟩ ?_; clear hK K; (try simp only [Act.put, List.setIfInBounds_toArray, List.set_cons_succ, List.set_cons_zero, cells_iV, iL_length, setL_i, setL_ii, agg_iL])))
    | (go_at_call 34; (with_reducible refine (refFrom_any (FW (fun _ => False) _) _ (H.fw_lt rfl hF) z hz).mono ?_); rintro e w3 ⟨A8, k8, l8, rfl, hb, s8, g8, q8, p8⟩; replace H := H.ext hb; clear hb; obtain ⟨b8, o8, H4, f8⟩ := H.addSl s8; clear H s8; have H := H4; clear H4; dsimp only; (refine hK _ _ ⟨_, H, by repeat first | exact .here | apply Suf.there⟩ ?_; clear hK K; (try simp only [Act.put, List.setIfInBounds_toArray, List.set_cons_succ, List.set_cons_zero, cells_iV, iL_length, setL_i, setL_ii, agg_iL])))
    | (go_at_call 34; (with_reducible refine (refFrom_any (FW (fun _ => False) _) _ (H.fw_lt rfl hF) t ht).mono ?_); rintro e w3 ⟨A9, k9, l9, rfl, hb, s9, g9, q9, p9⟩; replace H := H.ext hb; clear hb; obtain ⟨b9, o9, H4, f9⟩ := H.addSl s9; clear H s9; have H := H4; clear H4; dsimp only; (refine hK _ _ ⟨_, H, by repeat first | exact .here | apply Suf.there⟩ ?_; clear hK K; (try simp only [Act.put, List.setIfInBounds_toArray, List.set_cons_succ, List.set_cons_zero, cells_iV, iL_length, setL_i, setL_ii, agg_iL])))
    | (go_at_call 49; (with_reducible refine (hM (FW (fun _ => False) _) _ (H.fw_lt rfl hF) _ _ _ _ l5 l6 (H.giveRd m1 f5) (H.giveRd m0 f6) g5 g6 q5 q6).mono ?_); rintro e w3 ⟨A7, k7, l7, rfl, hb, s7, g7, q7, p7⟩; replace H := H.ext hb; clear hb; obtain ⟨b7, o7, H4, f7⟩ := H.addSl s7; clear H s7; have H := H4; clear H4; dsimp only; (refine hK _ _ ⟨_, H, by repeat first | exact .here | apply Suf.there⟩ ?_; clear hK K; (try simp only [Act.put, List.setIfInBounds_toArray, List.set_cons_succ, List.set_cons_zero, cells_iV, iL_length, setL_i, setL_ii, agg_iL])))
    | (go_at_call 49; (with_reducible refine (hM2 (FW (fun _ => False) _) _ (H.fw_lt rfl hF) _ _ _ _ l8 l9 (H.giveRd m1 f8) (H.giveRd m0 f9) g8 g9 q8 q9).mono ?_); rintro e w3 ⟨A10, k10, l10, rfl, hb, s10, g10, q10, p10⟩; replace H := H.ext hb; clear hb; obtain ⟨b10, o10, H4, f10⟩ := H.addSl s10; clear H s10; have H := H4; clear H4; dsimp only; (refine hK _ _ ⟨_, H, by repeat first | exact .here | apply Suf.there⟩ ?_; clear hK K; (try simp only [Act.put, List.setIfInBounds_toArray, List.set_cons_succ, List.set_cons_zero, cells_iV, iL_length, setL_i, setL_ii, agg_iL])))
    | (go_at_call 54; (with_reducible refine (hC (FW (fun _ => False) _) _ (H.fw_lt rfl hF) _ _ _ _ l7 l10 (by exact H.giveRd m3 f7) (H.giveRd m0 f10) g7 g10).mono ?_); rintro e w3 ⟨rfl, hb⟩; replace H := H.ext hb; clear hb; dsimp only; (refine hK _ _ ⟨_, H, by repeat first | exact .here | apply Suf.there⟩ ?_; clear hK K; (try simp only [Act.put, List.setIfInBounds_toArray, List.set_cons_succ, List.set_cons_zero, cells_iV, iL_length, setL_i, setL_ii, agg_iL])))
    | (guard_target =~ wpList _ _ _ (_ :: _) _ _; ((guard_target =~ wpList _ _ _ (Oper.mk _ (.box _ _) _ _ _ _ :: _) _ _; refine BigFrame.wpList_want rfl (fun K hK => ?_); refine o_box rfl H rfl (fun w3 b2 he H2 => hK _ _ ?_)); clear hK K he; clear H; (try clear w2); revert w3; intro w2 H; (try simp [Act.eval, List.getD, cells_iV, iL_length, setL_i, setL_ii, agg_iL] at H); (try simp [Value.cells, setL, cells_iV, iL_length, setL_i, setL_ii, agg_iL] at H); (first | (clear tk0; rename Nat => c1) | (clear tk1; rename Nat => c2) | (clear tk2; rename Nat => c3) | (clear tk3; rename Nat => c4))); simp only [Act.put, List.setIfInBounds_toArray, List.set_cons_succ, List.set_cons_zero, cells_iV, iL_length, setL_i, setL_ii, agg_iL])
    | (guard_target =~ wpTree _ _ _ _ _ _ _; first | (guard_target =~ wpTree _ _ _ (Tr.q _ _) _ _ _; first | (refine tree_quiet ⟨_, H, by repeat first | exact .here | apply Suf.there⟩ rfl rfl rfl (fun K hK => ?_); simp only [List.getElem_toArray, List.getElem_cons_succ, List.getElem_cons_zero]; first | (guard_target =~ Oper.quiet _ (Oper.mk _ (.load _ _) _ _ _ _) _ _ _; (refine q_loadNC (row := ?_) rfl rfl ?_ ?_ ?_ (hK _ ?_); rotate_left 1; (repeat first | exact .head _ | apply List.Mem.tail); (focus (intro _; simp [cells_iV, iL_length, setL_i, setL_ii, agg_iL]; done)); (focus (intro _; simp [cells_iV, iL_length, setL_i, setL_ii, agg_iL]; done))); clear hK K; simp only [Act.put, List.setIfInBounds_toArray, List.set_cons_succ, List.set_cons_zero, cells_iV, iL_length, setL_i, setL_ii, agg_iL]) | (go_big_quiet_op; (try refine ⟨_, fun _ _ => rfl, ?_⟩); refine hK _ ?_; clear hK K)) | (refine tree_skip ⟨_, H, by repeat first | exact .here | apply Suf.there⟩ rfl rfl ?_; simp only [List.getElem_toArray, List.getElem_cons_succ, List.getElem_cons_zero, Act.put, List.setIfInBounds_toArray, List.set_cons_succ, List.set_cons_zero])) | (guard_target =~ wpTree _ _ _ (Tr.both _ _) _ _ _; refine tree_both ?_ ?_) | (guard_target =~ wpTree _ _ _ (Tr.e _ _) _ _ _; first | (refine tree_one rfl rfl (fun K hK => ?_); simp only [List.getElem_toArray, List.getElem_cons_succ, List.getElem_cons_zero]; first | ((first | fail); simp only [Act.put, List.setIfInBounds_toArray, List.set_cons_succ, List.set_cons_zero, cells_iV, iL_length, setL_i, setL_ii, agg_iL]) | go_big_op) | (refine tree_one_skip ⟨_, H, by repeat first | exact .here | apply Suf.there⟩ rfl rfl ?_; simp only [List.getElem_toArray, List.getElem_cons_succ, List.getElem_cons_zero, Act.put, List.setIfInBounds_toArray, List.set_cons_succ, List.set_cons_zero])) | (guard_target =~ wpTree _ _ _ Tr.nil _ _ _; refine tree_nil ?_)))
  go_ret
  exact ⟨rfl, H.below⟩
end Go.Proofs.Ytdgpdafkngoegaa
