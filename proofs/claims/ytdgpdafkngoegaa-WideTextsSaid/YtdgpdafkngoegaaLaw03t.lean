/-
  The statements of layer 3: decimal texts.
-/
import Derived.Test.YtdgpdafkngoegaaLaw03a
import Derived.Test.YtdgpdafkngoegaaRef03l
import Derived.Test.YtdgpdafkngoegaaRef03m
namespace Go.Proofs.Ytdgpdafkngoegaa
set_option linter.unusedVariables false
set_option linter.unusedSimpArgs false
open Go.RowKit

theorem fit_len' {x : Int} (hx : R256 x) {l : List Nat} (g : CnI l x) : l.length ≤ 16 := g.len_le (by
  have e : (65536 : Nat) ^ 16 = 115792089237316195423570985008687907853269984665640564039457584007913129639936 := by decide
  rw [e]; unfold R256 at hx; omega)
set_option maxRecDepth 100000 in
set_option maxHeartbeats 8000000 in
theorem law_WideTexts (x : Int) (w : World) (hx : R256 x) : Calls Try.prog 5 #[iV x] w fun e w' => e = .returned (.bool true) ∧ Below w.heap.size w w' := by
  have H := Own.start w
  have hT := fun w => Text_any x hx w
  have hR : ∀ (F : Nat → Prop) (w : World) (hF : ∀ k, F k → k < w.heap.size) (A : Option Addr) (c : Nat) (l : List Nat) (ha : Sl F w A (dl l)) (g : CnI l x) (hc : l.length ≤ c) (hm : c ≤ maxLen), Calls Try.prog 39 #[.agg #[.bool (decide (x < 0)), .slice A l.length c]] w fun e w' => e = .returned (.string ⟨(textL x).toArray⟩) ∧ Below w.heap.size w w' :=
    fun F w hF A c l ha g hc hm => refText_any F w hF A c l x ha g (by have := fit_len' hx g; omega) hc hm
  go_enter Try.func5, Try.ntmps5
  have tk0 : True := trivial
  go_wp2_with (first
    | (guard_target =~ Code.wp _ (Code.region 1 _ true) _ _ _; refine region_tree0 1 (G := True) (.e 0 (.q 1 (.q 2 (.q 4 (.e 3 (.e 5 (.e 6 (.q 7 (.q 8 (.q 9 .nil)))))))))) (by kernel_rfl) (by intro c a d v w h; cases d <;> exact h) (by kernel_rfl) H ⟨trivial⟩ (fun _ w3 H2 => ?_); (clear H; (try clear w2); revert w3; intro w2 H))
    | (go_at_call 32; (with_reducible refine (awake_any _).mono ?_); rintro e w3 ⟨rfl, hb⟩; replace H := H.ext hb; clear hb; dsimp only; (refine hK _ _ ⟨_, H, by repeat first | exact .here | apply Suf.there⟩ ?_; clear hK K; (try simp only [Act.put, List.setIfInBounds_toArray, List.set_cons_succ, List.set_cons_zero, cells_iV, iL_length, setL_i, setL_ii, agg_iL])))
    | (go_at_call 38; (with_reducible refine (hT _).mono ?_); rintro e w3 ⟨rfl, hb⟩; replace H := H.ext hb; clear hb; dsimp only; (refine hK _ _ ⟨_, H, by repeat first | exact .here | apply Suf.there⟩ ?_; clear hK K; (try simp only [Act.put, List.setIfInBounds_toArray, List.set_cons_succ, List.set_cons_zero, cells_iV, iL_length, setL_i, setL_ii, agg_iL])))
    | (go_at_call 34; (with_reducible refine (refFrom_any (FW (fun _ => False) _) _ (H.fw_lt rfl (fun k h => h.elim)) x hx).mono ?_); rintro e w3 ⟨A5, k5, l5, rfl, hb, s5, g5, q5, p5⟩; replace H := H.ext hb; clear hb; obtain ⟨b5, o5, H4, f5⟩ := H.addSl s5; clear H s5; have H := H4; clear H4; dsimp only; (refine hK _ _ ⟨_, H, by repeat first | exact .here | apply Suf.there⟩ ?_; clear hK K; (try simp only [Act.put, List.setIfInBounds_toArray, List.set_cons_succ, List.set_cons_zero, cells_iV, iL_length, setL_i, setL_ii, agg_iL])))
    | (go_at_call 39; (with_reducible refine (hR (FW (fun _ => False) _) _ (H.fw_lt rfl (fun k h => h.elim)) _ _ l5 (H.giveRd m0 f5) g5 q5 p5).mono ?_); rintro e w3 ⟨rfl, hb⟩; replace H := H.ext hb; clear hb; dsimp only; (refine hK _ _ ⟨_, H, by repeat first | exact .here | apply Suf.there⟩ ?_; clear hK K; (try simp only [Act.put, List.setIfInBounds_toArray, List.set_cons_succ, List.set_cons_zero, cells_iV, iL_length, setL_i, setL_ii, agg_iL])))
    | (guard_target =~ wpList _ _ _ (_ :: _) _ _; ((guard_target =~ wpList _ _ _ (Oper.mk _ (.box _ _) _ _ _ _ :: _) _ _; refine BigFrame.wpList_want rfl (fun K hK => ?_); refine o_box rfl H rfl (fun w3 b2 he H2 => hK _ _ ?_)); clear hK K he; clear H; (try clear w2); revert w3; intro w2 H; (try simp [Act.eval, List.getD, cells_iV, iL_length, setL_i, setL_ii, agg_iL] at H); (try simp [Value.cells, setL, cells_iV, iL_length, setL_i, setL_ii, agg_iL] at H); (clear tk0; rename Nat => c1)); simp only [Act.put, List.setIfInBounds_toArray, List.set_cons_succ, List.set_cons_zero, cells_iV, iL_length, setL_i, setL_ii, agg_iL])
    | (guard_target =~ wpTree _ _ _ _ _ _ _; first | (guard_target =~ wpTree _ _ _ (Tr.q _ _) _ _ _; first | (refine tree_quiet ⟨_, H, by repeat first | exact .here | apply Suf.there⟩ rfl rfl rfl (fun K hK => ?_); simp only [List.getElem_toArray, List.getElem_cons_succ, List.getElem_cons_zero]; first | (guard_target =~ Oper.quiet _ (Oper.mk _ (.load _ _) _ _ _ _) _ _ _; (refine q_loadNC (row := ?_) rfl rfl ?_ ?_ ?_ (hK _ ?_); rotate_left 1; (repeat first | exact .head _ | apply List.Mem.tail); (focus (intro _; simp [cells_iV, iL_length, setL_i, setL_ii, agg_iL]; done)); (focus (intro _; simp [cells_iV, iL_length, setL_i, setL_ii, agg_iL]; done))); clear hK K; simp only [Act.put, List.setIfInBounds_toArray, List.set_cons_succ, List.set_cons_zero, cells_iV, iL_length, setL_i, setL_ii, agg_iL]) | (go_big_quiet_op; (try refine ⟨_, fun _ _ => rfl, ?_⟩); refine hK _ ?_; clear hK K)) | (refine tree_skip ⟨_, H, by repeat first | exact .here | apply Suf.there⟩ rfl rfl ?_; simp only [List.getElem_toArray, List.getElem_cons_succ, List.getElem_cons_zero, Act.put, List.setIfInBounds_toArray, List.set_cons_succ, List.set_cons_zero])) | (guard_target =~ wpTree _ _ _ (Tr.both _ _) _ _ _; refine tree_both ?_ ?_) | (guard_target =~ wpTree _ _ _ (Tr.e _ _) _ _ _; first | (refine tree_one rfl rfl (fun K hK => ?_); simp only [List.getElem_toArray, List.getElem_cons_succ, List.getElem_cons_zero]; first | ((first | fail); simp only [Act.put, List.setIfInBounds_toArray, List.set_cons_succ, List.set_cons_zero, cells_iV, iL_length, setL_i, setL_ii, agg_iL]) | go_big_op) | (refine tree_one_skip ⟨_, H, by repeat first | exact .here | apply Suf.there⟩ rfl rfl ?_; simp only [List.getElem_toArray, List.getElem_cons_succ, List.getElem_cons_zero, Act.put, List.setIfInBounds_toArray, List.set_cons_succ, List.set_cons_zero])) | (guard_target =~ wpTree _ _ _ Tr.nil _ _ _; refine tree_nil ?_)))
  go_ret
  exact ⟨rfl, H.below⟩
end Go.Proofs.Ytdgpdafkngoegaa
