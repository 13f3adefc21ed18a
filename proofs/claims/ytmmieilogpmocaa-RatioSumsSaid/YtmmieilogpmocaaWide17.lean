/-
  The walks of layer 3 (wide): Mul, Above.
-/
import Derived.Test.YtmmieilogpmocaaWide16
import Derived.Test.YtmmieilogpmocaaWide11
namespace Go.Proofs.Ytmmieilogpmocaa
set_option linter.unusedVariables false
set_option linter.unusedSimpArgs false
open Go.RowKit

theorem mul_plain (x y : Int) : sgZ (absZ x * absZ y) (decide (x < 0) != decide (y < 0)) = x * y := by
  unfold sgZ absZ
  by_cases hx : x < 0 <;> by_cases hy : y < 0 <;> simp [hx, hy, Int.neg_mul, Int.mul_neg]
theorem mul_abs (x y : Int) (hx : R256 x) (hy : R256 y) : M512 (absZ x * absZ y) := mul_M512 (absZ_lt hx).1 (absZ_lt hy).1 (absZ_lt hx).2 (absZ_lt hy).2
set_option maxRecDepth 100000 in
set_option maxHeartbeats 4000000 in
theorem Mul_any (x y : Int) (hx : R256 x) (hy : R256 y) (w : World) :
    Calls Try.prog 78 #[iV x, iV y] w fun e w' => e = .returned (.tuple #[iV (fitZ (x * y)), .int .i64 (errZ (x * y))]) ∧ Below w.heap.size w w' := by
  have H := Own.start w
  have hp := fun w => product_any (absZ x) (absZ y) (absZ_M hx) (absZ_M hy) (by have := absZ_lt hx; omega) (by have := absZ_lt hy; omega) w
  have hs1 := fun w => signed_any _ (decide (x < 0) != decide (y < 0)) (mul_abs x y hx hy) w
  rw [mul_plain] at hs1
  have hbx := fun w => below_i x hx w
  have hby := fun w => below_i y hy w
  have hpx := fun w => plain_any x hx w
  have hpy := fun w => plain_any y hy w
  obtain ⟨s, hs⟩ : ∃ s, decide (x < 0) = s := ⟨_, rfl⟩
  obtain ⟨t, ht⟩ : ∃ t, decide (y < 0) = t := ⟨_, rfl⟩
  rw [hs, ht] at hs1
  simp only [bne] at hs1
  rw [hs] at hbx
  rw [ht] at hby
  clear hs ht
  go_enter Try.func78, Try.ntmps78
  have tk0 : True := trivial
  have tk1 : True := trivial
  have tk2 : True := trivial
  go_wp2_with (first
    | (guard_target =~ Code.wp _ (Code.region 1 _ true) _ _ _; refine region_tree 1 1 (G := True) (.q 0 (.q 2 (.q 5 (.q 7 (.e 1 (.e 3 (.e 4 (.e 6 (.e 8 (.q 9 (.e 10 (.q 11 (.q 12 (.e 13 (.q 14 .nil))))))))))))))) (by kernel_rfl) (by intro c a d v w h; cases d <;> exact h) (by kernel_rfl) H ⟨trivial⟩ (fun _ w3 H2 => ?_); (clear H; (try clear w2); revert w3; intro w2 H); simp only [List.drop_succ_cons, List.drop_zero])
    | (go_at_call 84; (with_reducible refine (hpx _).mono ?_); rintro e w3 ⟨rfl, hb⟩; replace H := H.ext hb; clear hb; dsimp only; (refine hK _ _ ⟨_, H, by repeat first | exact .here | apply Suf.there⟩ ?_; clear hK K; (try simp only [Act.put, List.setIfInBounds_toArray, List.set_cons_succ, List.set_cons_zero, cells_iV, cells_mV, iL_length, mL_length, setL_i, setL_ii, setL_m, setL_mm, agg_iL, agg_mL])))
    | (go_at_call 84; (with_reducible refine (hpy _).mono ?_); rintro e w3 ⟨rfl, hb⟩; replace H := H.ext hb; clear hb; dsimp only; (refine hK _ _ ⟨_, H, by repeat first | exact .here | apply Suf.there⟩ ?_; clear hK K; (try simp only [Act.put, List.setIfInBounds_toArray, List.set_cons_succ, List.set_cons_zero, cells_iV, cells_mV, iL_length, mL_length, setL_i, setL_ii, setL_m, setL_mm, agg_iL, agg_mL])))
    | (go_at_call 96; (with_reducible refine (hp _).mono ?_); rintro e w3 ⟨rfl, hb⟩; replace H := H.ext hb; clear hb; dsimp only; (refine hK _ _ ⟨_, H, by repeat first | exact .here | apply Suf.there⟩ ?_; clear hK K; (try simp only [Act.put, List.setIfInBounds_toArray, List.set_cons_succ, List.set_cons_zero, cells_iV, cells_mV, iL_length, mL_length, setL_i, setL_ii, setL_m, setL_mm, agg_iL, agg_mL])))
    | (go_at_call 87; (with_reducible refine (hbx _).mono ?_); rintro e w3 ⟨rfl, hb⟩; replace H := H.ext hb; clear hb; dsimp only; (refine hK _ _ ⟨_, H, by repeat first | exact .here | apply Suf.there⟩ ?_; clear hK K; (try simp only [Act.put, List.setIfInBounds_toArray, List.set_cons_succ, List.set_cons_zero, cells_iV, cells_mV, iL_length, mL_length, setL_i, setL_ii, setL_m, setL_mm, agg_iL, agg_mL])))
    | (go_at_call 87; (with_reducible refine (hby _).mono ?_); rintro e w3 ⟨rfl, hb⟩; replace H := H.ext hb; clear hb; dsimp only; (refine hK _ _ ⟨_, H, by repeat first | exact .here | apply Suf.there⟩ ?_; clear hK K; (try simp only [Act.put, List.setIfInBounds_toArray, List.set_cons_succ, List.set_cons_zero, cells_iV, cells_mV, iL_length, mL_length, setL_i, setL_ii, setL_m, setL_mm, agg_iL, agg_mL])))
    | (go_at_call 86; (with_reducible refine (hs1 _).mono ?_); rintro e w3 ⟨rfl, hb⟩; replace H := H.ext hb; clear hb; dsimp only; (refine hK _ _ ⟨_, H, by repeat first | exact .here | apply Suf.there⟩ ?_; clear hK K; (try simp only [Act.put, List.setIfInBounds_toArray, List.set_cons_succ, List.set_cons_zero, cells_iV, cells_mV, iL_length, mL_length, setL_i, setL_ii, setL_m, setL_mm, agg_iL, agg_mL])))
    | (guard_target =~ wpList _ _ _ (_ :: _) _ _; ((first | (guard_target =~ wpList _ _ _ (Oper.mk _ (.alloc _) _ _ _ _ :: _) _ _; refine BigFrame.wpList_want rfl (fun K hK => ?_); refine o_alloc (z := ?_) rfl ?_ H rfl (fun w3 b2 he H2 => hK _ _ ?_); rotate_left 1; (focus (intro _; simp; with_reducible exact rfl))) | (guard_target =~ wpList _ _ _ (Oper.mk _ (.box _ _) _ _ _ _ :: _) _ _; refine BigFrame.wpList_want rfl (fun K hK => ?_); refine o_box rfl H rfl (fun w3 b2 he H2 => hK _ _ ?_))); clear hK K he; clear H; (try clear w2); revert w3; intro w2 H; (try simp [Act.eval, List.getD, cells_iV, cells_mV, iL_length, mL_length, setL_i, setL_ii, setL_m, setL_mm, agg_iL, agg_mL] at H); (try simp [Value.cells, setL, cells_iV, cells_mV, iL_length, mL_length, setL_i, setL_ii, setL_m, setL_mm, agg_iL, agg_mL] at H); (first | (clear tk0; rename Nat => c2) | (clear tk1; rename Nat => c3) | (clear tk2; rename Nat => c4))); simp only [Act.put, List.setIfInBounds_toArray, List.set_cons_succ, List.set_cons_zero, cells_iV, cells_mV, iL_length, mL_length, setL_i, setL_ii, setL_m, setL_mm, agg_iL, agg_mL])
    | (guard_target =~ wpTree _ _ _ _ _ _ _; first | (guard_target =~ wpTree _ _ _ (Tr.q _ _) _ _ _; first | (refine tree_quiet ⟨_, H, by repeat first | exact .here | apply Suf.there⟩ rfl rfl rfl (fun K hK => ?_); simp only [List.getElem_toArray, List.getElem_cons_succ, List.getElem_cons_zero]; first | (guard_target =~ Oper.quiet _ (Oper.mk _ (.load _ _) _ _ _ _) _ _ _; (refine q_loadNC (row := ?_) rfl rfl ?_ ?_ ?_ (hK _ ?_); rotate_left 1; (repeat first | exact .head _ | apply List.Mem.tail); (focus (intro _; simp [cells_iV, cells_mV, iL_length, mL_length, setL_i, setL_ii, setL_m, setL_mm, agg_iL, agg_mL]; done)); (focus (intro _; simp [cells_iV, cells_mV, iL_length, mL_length, setL_i, setL_ii, setL_m, setL_mm, agg_iL, agg_mL]; done))); clear hK K; simp only [Act.put, List.setIfInBounds_toArray, List.set_cons_succ, List.set_cons_zero, cells_iV, cells_mV, iL_length, mL_length, setL_i, setL_ii, setL_m, setL_mm, agg_iL, agg_mL]) | (go_big_quiet_op; (try refine ⟨_, fun _ _ => rfl, ?_⟩); refine hK _ ?_; clear hK K)) | (refine tree_skip ⟨_, H, by repeat first | exact .here | apply Suf.there⟩ rfl rfl ?_; simp only [List.getElem_toArray, List.getElem_cons_succ, List.getElem_cons_zero, Act.put, List.setIfInBounds_toArray, List.set_cons_succ, List.set_cons_zero])) | (guard_target =~ wpTree _ _ _ (Tr.both _ _) _ _ _; refine tree_both ?_ ?_) | (guard_target =~ wpTree _ _ _ (Tr.e _ _) _ _ _; first | (refine tree_one rfl rfl (fun K hK => ?_); simp only [List.getElem_toArray, List.getElem_cons_succ, List.getElem_cons_zero]; first | ((guard_target =~ Oper.wp _ (Oper.mk _ (.store _ _ _) _ _ _ _) _ _ _ _; refine o_store (l' := ?_) (row := ?_) rfl rfl H rfl ?_ ?_ ?_ ?_ (fun w3 H2 => hK _ _ ⟨_, H2, ?_⟩ ?_); rotate_left 2; (exact r0); (focus (intro _; (simp [Act.eval, List.getD, cells_iV, cells_mV, iL_length, mL_length, setL_i, setL_ii, setL_m, setL_mm, agg_iL, agg_mL]; done))); (focus (simp [Act.eval, List.getD, cells_iV, cells_mV, iL_length, mL_length, setL_i, setL_ii, setL_m, setL_mm, agg_iL, agg_mL]; done)); (exact rfl); (guard_target =~ Suf _ _; repeat first | exact .here | apply Suf.there); clear hK K; clear H; (try clear w2); revert w3; intro w2 H; (try simp [Act.eval, List.getD, cells_iV, cells_mV, iL_length, mL_length, setL_i, setL_ii, setL_m, setL_mm, agg_iL, agg_mL] at H); (try simp [Value.cells, setL, cells_iV, cells_mV, iL_length, mL_length, setL_i, setL_ii, setL_m, setL_mm, agg_iL, agg_mL] at H)); simp only [Act.put, List.setIfInBounds_toArray, List.set_cons_succ, List.set_cons_zero, cells_iV, cells_mV, iL_length, mL_length, setL_i, setL_ii, setL_m, setL_mm, agg_iL, agg_mL]) | go_big_op) | (refine tree_one_skip ⟨_, H, by repeat first | exact .here | apply Suf.there⟩ rfl rfl ?_; simp only [List.getElem_toArray, List.getElem_cons_succ, List.getElem_cons_zero, Act.put, List.setIfInBounds_toArray, List.set_cons_succ, List.set_cons_zero])) | (guard_target =~ wpTree _ _ _ Tr.nil _ _ _; refine tree_nil ?_)))
  have r4 := H.loadVarN (P := Try.prog) (ty := 24) m0 (by simp) (by simp [iL_length])
  exact bodyPost_ret (v := .tuple #[iV (fitZ (x * y)), .int .i64 (errZ (x * y))]) (by simp [results, Try.results78, asAddr, r4, agg_iL]) rfl ⟨rfl, H.below⟩
end Go.Proofs.Ytmmieilogpmocaa
