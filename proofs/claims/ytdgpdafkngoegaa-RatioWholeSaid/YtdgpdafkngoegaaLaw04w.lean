/-
  The statements of layer 4: a whole number is itself through 1.
-/
import Derived.Test.YtdgpdafkngoegaaLaw04a
import Derived.Test.YtdgpdafkngoegaaWide2
namespace Go.Proofs.Ytdgpdafkngoegaa
set_option linter.unusedVariables false
set_option linter.unusedSimpArgs false
open Go.RowKit

set_option maxRecDepth 100000 in
set_option maxHeartbeats 8000000 in
theorem law_RatioWhole (n : Int) (w : World) (h1 : -9223372036854775808 ≤ n) (h2 : n ≤ 9223372036854775807) :
    Calls Try.prog 16 #[.int .i64 n] w fun e w' => e = .returned (.bool true) ∧ Below w.heap.size w w' := by
  have H := Own.start w
  have hn : R256 n := by unfold R256; omega
  have hr : rightB n 1 = true := by
    unfold rightB gcdZ
    rw [Int.gcd_one_right]
    rfl
  have hf : floorR n 1 = n := by unfold floorR; rw [hr, if_pos rfl, Int.ediv_one]
  have hF := fun w => ratFloor_any n 1 hn r256_1 w
  rw [hf] at hF
  have hR := fun w => Right_any n 1 hn r256_1 w
  rw [hr] at hR
  have hW := fun w => Whole_any n h1 h2 w
  have fn : F64 n := ⟨h1, h2⟩
  have hS := fun w => small_any n hn w
  rw [if_pos fn, show decide (F64 n) = true by simpa using fn] at hS
  have hof := fun w => of_w n w h1 h2
  have ho := of_1
  have g1 := guard_iVV
  have e1 := fun w => aw4_eq n hn w
  have e2 := fun w => aw4_eq 1 r256_1 w
  clear hr hf fn
  go_enter Try.func16, Try.ntmps16
  have tk0 : True := trivial
  go_wp2_with (first
    | (guard_target =~ Code.wp _ (Code.region 3 _ true) _ _ _; refine region_tree0 3 (G := True) (.e 0 (.q 1 (.q 2 (.e 3 (.q 4 (.q 5 (.q 6 (.q 7 (.q 8 (.e 9 (.q 10 (.q 11 (.q 12 (.q 13 (.q 14 (.e 15 (.q 16 (.q 17 (.q 18 (.q 19 (.q 20 (.q 21 (.q 22 (.q 23 (.q 24 (.q 25 (.q 26 .nil))))))))))))))))))))))))))) (by kernel_rfl) (by intro c a d v w h; cases d <;> exact h) (by kernel_rfl) H ⟨trivial⟩ (fun _ w3 H2 => ?_); (clear H; (try clear w2); revert w3; intro w2 H))
    | (go_at_call 60; (with_reducible refine (awake4_any _).mono ?_); rintro e w3 ⟨rfl, hb⟩; replace H := H.ext hb; clear hb; dsimp only; (refine hK _ _ ⟨_, H, by repeat first | exact .here | apply Suf.there⟩ ?_; clear hK K; (try simp only [Act.put, List.setIfInBounds_toArray, List.set_cons_succ, List.set_cons_zero, cells_iV, iL_length, setL_i, setL_ii, agg_iL, cells_rV, rL_length, setL_r, setL_rr, agg_rL])))
    | (go_at_call 63; (with_reducible refine (hW _).mono ?_); rintro e w3 ⟨rfl, hb⟩; replace H := H.ext hb; clear hb; dsimp only; (skip))
    | (go_at_call 64; (with_reducible refine (hF _).mono ?_); rintro e w3 ⟨rfl, hb⟩; replace H := H.ext hb; clear hb; dsimp only; (skip))
    | (go_at_call 62; (with_reducible refine (hR _).mono ?_); rintro e w3 ⟨rfl, hb⟩; replace H := H.ext hb; clear hb; dsimp only; (refine hK _ _ ⟨_, H, by repeat first | exact .here | apply Suf.there⟩ ?_; clear hK K; (try simp only [Act.put, List.setIfInBounds_toArray, List.set_cons_succ, List.set_cons_zero, cells_iV, iL_length, setL_i, setL_ii, agg_iL, cells_rV, rL_length, setL_r, setL_rr, agg_rL])))
    | (go_at_call 43; (with_reducible refine (hS _).mono ?_); rintro e w3 ⟨rfl, hb⟩; replace H := H.ext hb; clear hb; dsimp only; (skip))
    | (go_at_call 44; (with_reducible refine (hof _).mono ?_); rintro e w3 ⟨rfl, hb⟩; replace H := H.ext hb; clear hb; dsimp only; (refine hK _ _ ⟨_, H, by repeat first | exact .here | apply Suf.there⟩ ?_; clear hK K; (try simp only [Act.put, List.setIfInBounds_toArray, List.set_cons_succ, List.set_cons_zero, cells_iV, iL_length, setL_i, setL_ii, agg_iL, cells_rV, rL_length, setL_r, setL_rr, agg_rL])))
    | (go_at_call 44; (with_reducible refine (ho _).mono ?_); rintro e w3 ⟨rfl, hb⟩; replace H := H.ext hb; clear hb; dsimp only; (refine hK _ _ ⟨_, H, by repeat first | exact .here | apply Suf.there⟩ ?_; clear hK K; (try simp only [Act.put, List.setIfInBounds_toArray, List.set_cons_succ, List.set_cons_zero, cells_iV, iL_length, setL_i, setL_ii, agg_iL, cells_rV, rL_length, setL_r, setL_rr, agg_rL])))
    | (guard_target =~ wpList _ _ _ (_ :: _) _ _; (first | (guard_target =~ wpList _ _ _ (Oper.mk _ (.load _ _) _ _ _ _ :: _) _ _; refine BigFrame.wpList_want rfl (fun K hK => ?_); (refine o_loadNC (row := ?_) rfl rfl H ?_ ?_ ?_ (hK _ _ ?_); rotate_left 1; (repeat first | exact .head _ | apply List.Mem.tail); (focus (intro _; simp [cells_iV, iL_length, setL_i, setL_ii, agg_iL, cells_rV, rL_length, setL_r, setL_rr, agg_rL]; done)); (focus (intro _; simp [cells_iV, iL_length, setL_i, setL_ii, agg_iL, cells_rV, rL_length, setL_r, setL_rr, agg_rL]; done))); clear hK K) | (guard_target =~ wpList _ _ _ (Oper.mk _ (.store _ _ _) _ _ _ _ :: _) _ _; refine BigFrame.wpList_want rfl (fun K hK => ?_); refine o_store (l' := ?_) (row := ?_) rfl rfl H rfl ?_ ?_ ?_ ?_ (fun w3 H2 => hK _ _ ?_); rotate_left 2; (exact r0); (focus (intro _; (simp [Act.eval, List.getD, cells_iV, iL_length, setL_i, setL_ii, agg_iL, cells_rV, rL_length, setL_r, setL_rr, agg_rL]; done))); (focus (simp [Act.eval, List.getD, cells_iV, iL_length, setL_i, setL_ii, agg_iL, cells_rV, rL_length, setL_r, setL_rr, agg_rL]; done)); (exact rfl); clear hK K; clear H; (try clear w2); revert w3; intro w2 H; (try simp [Act.eval, List.getD, cells_iV, iL_length, setL_i, setL_ii, agg_iL, cells_rV, rL_length, setL_r, setL_rr, agg_rL] at H); (try simp [Value.cells, setL, cells_iV, iL_length, setL_i, setL_ii, agg_iL, cells_rV, rL_length, setL_r, setL_rr, agg_rL] at H)) | ((guard_target =~ wpList _ _ _ (Oper.mk _ (.alloc _) _ _ _ _ :: _) _ _; refine BigFrame.wpList_want rfl (fun K hK => ?_); refine o_alloc (z := ?_) rfl ?_ H rfl (fun w3 b2 he H2 => hK _ _ ?_); rotate_left 1; (focus (intro _; simp; with_reducible exact rfl))); clear hK K he; clear H; (try clear w2); revert w3; intro w2 H; (try simp [Act.eval, List.getD, cells_iV, iL_length, setL_i, setL_ii, agg_iL, cells_rV, rL_length, setL_r, setL_rr, agg_rL] at H); (try simp [Value.cells, setL, cells_iV, iL_length, setL_i, setL_ii, agg_iL, cells_rV, rL_length, setL_r, setL_rr, agg_rL] at H); (clear tk0; rename Nat => c1))); simp only [Act.put, List.setIfInBounds_toArray, List.set_cons_succ, List.set_cons_zero, cells_iV, iL_length, setL_i, setL_ii, agg_iL, cells_rV, rL_length, setL_r, setL_rr, agg_rL])
    | (guard_target =~ wpTree _ _ _ _ _ _ _; first | (guard_target =~ wpTree _ _ _ (Tr.q _ _) _ _ _; first | (refine tree_quiet ⟨_, H, by repeat first | exact .here | apply Suf.there⟩ rfl rfl rfl (fun K hK => ?_); simp only [List.getElem_toArray, List.getElem_cons_succ, List.getElem_cons_zero]; first | (guard_target =~ Oper.quiet _ (Oper.mk _ (.load _ _) _ _ _ _) _ _ _; (first | (refine q_loadNum (n := ?_) (d := ?_) rfl rfl ?_ ?_ ?_ (hK _ ?_); rotate_left 2; (repeat first | exact .head _ | apply List.Mem.tail); (focus (intro _; simp [cells_iV, iL_length, setL_i, setL_ii, agg_iL, cells_rV, rL_length, setL_r, setL_rr, agg_rL]; done)); (focus (intro _; simp [cells_iV, iL_length, setL_i, setL_ii, agg_iL, cells_rV, rL_length, setL_r, setL_rr, agg_rL]; done))) | (refine q_loadDen (n := ?_) (d := ?_) rfl rfl ?_ ?_ ?_ (hK _ ?_); rotate_left 2; (repeat first | exact .head _ | apply List.Mem.tail); (focus (intro _; simp [cells_iV, iL_length, setL_i, setL_ii, agg_iL, cells_rV, rL_length, setL_r, setL_rr, agg_rL]; done)); (focus (intro _; simp [cells_iV, iL_length, setL_i, setL_ii, agg_iL, cells_rV, rL_length, setL_r, setL_rr, agg_rL]; done))) | (refine q_loadNC (row := ?_) rfl rfl ?_ ?_ ?_ (hK _ ?_); rotate_left 1; (repeat first | exact .head _ | apply List.Mem.tail); (focus (intro _; simp [cells_iV, iL_length, setL_i, setL_ii, agg_iL, cells_rV, rL_length, setL_r, setL_rr, agg_rL]; done)); (focus (intro _; simp [cells_iV, iL_length, setL_i, setL_ii, agg_iL, cells_rV, rL_length, setL_r, setL_rr, agg_rL]; done)))); clear hK K; simp only [Act.put, List.setIfInBounds_toArray, List.set_cons_succ, List.set_cons_zero, cells_iV, iL_length, setL_i, setL_ii, agg_iL, cells_rV, rL_length, setL_r, setL_rr, agg_rL]) | (go_big_quiet_op; (try refine ⟨_, fun _ _ => rfl, ?_⟩); refine hK _ ?_; clear hK K)) | (refine tree_skip ⟨_, H, by repeat first | exact .here | apply Suf.there⟩ rfl rfl ?_; simp only [List.getElem_toArray, List.getElem_cons_succ, List.getElem_cons_zero, Act.put, List.setIfInBounds_toArray, List.set_cons_succ, List.set_cons_zero])) | (guard_target =~ wpTree _ _ _ (Tr.both _ _) _ _ _; refine tree_both ?_ ?_) | (guard_target =~ wpTree _ _ _ (Tr.e _ _) _ _ _; first | (refine tree_one rfl rfl (fun K hK => ?_); simp only [List.getElem_toArray, List.getElem_cons_succ, List.getElem_cons_zero]; first | ((first | fail); simp only [Act.put, List.setIfInBounds_toArray, List.set_cons_succ, List.set_cons_zero, cells_iV, iL_length, setL_i, setL_ii, agg_iL, cells_rV, rL_length, setL_r, setL_rr, agg_rL]) | (go_big_op; (skip))) | (refine tree_one_skip ⟨_, H, by repeat first | exact .here | apply Suf.there⟩ rfl rfl ?_; simp only [List.getElem_toArray, List.getElem_cons_succ, List.getElem_cons_zero, Act.put, List.setIfInBounds_toArray, List.set_cons_succ, List.set_cons_zero])) | (guard_target =~ wpTree _ _ _ Tr.nil _ _ _; refine tree_nil ?_)))
  go_ret
  exact ⟨rfl, H.below⟩
end Go.Proofs.Ytdgpdafkngoegaa
