/-
  The statements of layer 4: the examples.
-/
import Derived.Test.YtmmieilogpmocaaRat6
import Derived.Test.YtmmieilogpmocaaRat3
namespace Go.Proofs.Ytmmieilogpmocaa
set_option linter.unusedVariables false
set_option linter.unusedSimpArgs false
open Go.RowKit

theorem aw4_make (w : World) : Calls Try.prog 15 #[iV 6, iV (-4)] w fun e w' => e = .returned (.tuple #[rV (-3) 2, .int .i64 0]) ∧ Below w.heap.size w w' := by
  have h := Make_any 6 (-4) (by unfold R256; omega) (by unfold R256; omega) w
  have e1 : mkE 6 (-4) = 0 := by decide
  have e2 : mkV 6 (-4) = rV (-3) 2 := by
    unfold mkV
    rw [e1, if_pos rfl, show mkN 6 (-4) = -3 by decide, show mkD 6 (-4) = 2 by decide]
  rw [e1, e2] at h
  exact h
theorem aw4_right : rightB (-3) 2 = true := by decide
theorem aw4_text (w : World) : Calls Try.prog 35 #[rV (-3) 2] w fun e w' => e = .returned (.string ⟨#[45, 51, 47, 50]⟩) ∧ Below w.heap.size w w' := by
  have h := ratText_any (-3) 2 (by unfold R256; omega) (by unfold R256; omega) w
  have e1 : textR (-3) 2 = [45, 51, 47, 50] := by
    unfold textR
    rw [aw4_right, if_pos rfl, if_neg (by decide)]
    unfold textL
    rw [if_pos (by decide), if_neg (by decide), show (-3 : Int).natAbs = 3 from rfl, show (2 : Int).natAbs = 2 from rfl]
    simp [decL]
  rw [e1] at h
  exact h
theorem aw4_floor (w : World) : Calls Try.prog 34 #[rV (-3) 2] w fun e w' => e = .returned (iV (-2)) ∧ Below w.heap.size w w' := by
  have h := ratFloor_any (-3) 2 (by unfold R256; omega) (by unfold R256; omega) w
  rw [show floorR (-3) 2 = -2 by decide] at h
  exact h
theorem aw4_sign (w : World) : Calls Try.prog 33 #[rV (-3) 2] w fun e w' => e = .returned (.int .i64 (-1)) ∧ Below w.heap.size w w' := by
  have h := ratSign_any (-3) 2 (by unfold R256; omega) (by unfold R256; omega) w
  rw [aw4_right, if_pos rfl, show signZ (-3) = -1 by decide] at h
  exact h
theorem aw4_eq (x : Int) (hx : R256 x) (w : World) : (binOp .eql 24 (iV x) (iV x)).run Try.prog w = .ok (.bool true) w := by
  rw [eq_iV x x hx hx]; simp
set_option maxRecDepth 100000 in
set_option maxHeartbeats 8000000 in
theorem awake4_any (w : World) : Calls Try.prog 17 #[] w fun e w' => e = .returned (.bool true) ∧ Below w.heap.size w w' := by
  have H := Own.start w
  have g1 := guard_iVV
  have e1 := fun w => aw4_eq (-2) (by unfold R256; omega) w
  have hof := fun n w h1 h2 => of_w n w h1 h2
  go_enter Try.func17, Try.ntmps17
  have tk0 : True := trivial
  go_wp2_with (first
    | (go_at_call 58; (with_reducible refine (hof _ _ (by omega) (by omega)).mono ?_); rintro e w3 ⟨rfl, hb⟩; replace H := H.ext hb; clear hb; dsimp only; (skip))
    | (go_at_call 15; (with_reducible refine (aw4_make _).mono ?_); rintro e w3 ⟨rfl, hb⟩; replace H := H.ext hb; clear hb; dsimp only; (skip))
    | (go_at_call 35; (with_reducible refine (aw4_text _).mono ?_); rintro e w3 ⟨rfl, hb⟩; replace H := H.ext hb; clear hb; dsimp only; (skip))
    | (go_at_call 34; (with_reducible refine (aw4_floor _).mono ?_); rintro e w3 ⟨rfl, hb⟩; replace H := H.ext hb; clear hb; dsimp only; (skip))
    | (go_at_call 33; (with_reducible refine (aw4_sign _).mono ?_); rintro e w3 ⟨rfl, hb⟩; replace H := H.ext hb; clear hb; dsimp only; (skip))
    | (guard_target =~ wpList _ _ _ (_ :: _) _ _; (first | (guard_target =~ wpList _ _ _ (Oper.mk _ (.load _ _) _ _ _ _ :: _) _ _; refine BigFrame.wpList_want rfl (fun K hK => ?_); (refine o_loadNC (row := ?_) rfl rfl H ?_ ?_ ?_ (hK _ _ ?_); rotate_left 1; (repeat first | exact .head _ | apply List.Mem.tail); (focus (intro _; simp [cells_iV, iL_length, setL_i, setL_ii, agg_iL, cells_rV, rL_length, setL_r, setL_rr, agg_rL]; done)); (focus (intro _; simp [cells_iV, iL_length, setL_i, setL_ii, agg_iL, cells_rV, rL_length, setL_r, setL_rr, agg_rL]; done))); clear hK K) | (guard_target =~ wpList _ _ _ (Oper.mk _ (.store _ _ _) _ _ _ _ :: _) _ _; refine BigFrame.wpList_want rfl (fun K hK => ?_); refine o_store (l' := ?_) (row := ?_) rfl rfl H rfl ?_ ?_ ?_ ?_ (fun w3 H2 => hK _ _ ?_); rotate_left 2; (exact r0); (focus (intro _; (simp [Act.eval, List.getD, cells_iV, iL_length, setL_i, setL_ii, agg_iL, cells_rV, rL_length, setL_r, setL_rr, agg_rL]; done))); (focus (simp [Act.eval, List.getD, cells_iV, iL_length, setL_i, setL_ii, agg_iL, cells_rV, rL_length, setL_r, setL_rr, agg_rL]; done)); (exact rfl); clear hK K; clear H; (try clear w2); revert w3; intro w2 H; (try simp [Act.eval, List.getD, cells_iV, iL_length, setL_i, setL_ii, agg_iL, cells_rV, rL_length, setL_r, setL_rr, agg_rL] at H); (try simp [Value.cells, setL, cells_iV, iL_length, setL_i, setL_ii, agg_iL, cells_rV, rL_length, setL_r, setL_rr, agg_rL] at H)) | ((guard_target =~ wpList _ _ _ (Oper.mk _ (.alloc _) _ _ _ _ :: _) _ _; refine BigFrame.wpList_want rfl (fun K hK => ?_); refine o_alloc (z := ?_) rfl ?_ H rfl (fun w3 b2 he H2 => hK _ _ ?_); rotate_left 1; (focus (intro _; simp; with_reducible exact rfl))); clear hK K he; clear H; (try clear w2); revert w3; intro w2 H; (try simp [Act.eval, List.getD, cells_iV, iL_length, setL_i, setL_ii, agg_iL, cells_rV, rL_length, setL_r, setL_rr, agg_rL] at H); (try simp [Value.cells, setL, cells_iV, iL_length, setL_i, setL_ii, agg_iL, cells_rV, rL_length, setL_r, setL_rr, agg_rL] at H); (clear tk0; rename Nat => c1))); simp only [Act.put, List.setIfInBounds_toArray, List.set_cons_succ, List.set_cons_zero, cells_iV, iL_length, setL_i, setL_ii, agg_iL, cells_rV, rL_length, setL_r, setL_rr, agg_rL]))
  go_ret
  exact ⟨rfl, H.below⟩
end Go.Proofs.Ytmmieilogpmocaa
