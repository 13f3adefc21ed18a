/-
  The walks of ratio: what is below a fraction, and its text.
-/
import Derived.Test.YtmmieilogpmocaaRat2
import Derived.Test.YtmmieilogpmocaaRat3
import Derived.Test.YtmmieilogpmocaaWide3
import Derived.Test.YtmmieilogpmocaaWide21
namespace Go.Proofs.Ytmmieilogpmocaa
set_option linter.unusedVariables false
set_option linter.unusedSimpArgs false
open Go.RowKit

theorem floor_tdiv {n d : Int} (hd : 0 < d) : n / d = if n.tmod d < 0 then n.tdiv d - 1 else n.tdiv d := by
  have h1 := Int.tdiv_mul_add_tmod n d
  have h2 : (n.tmod d).natAbs < d.natAbs := by rw [Int.natAbs_tmod]; exact Nat.mod_lt _ (by omega)
  split
  · next h =>
    have h3 : n = (n.tmod d + d) + (n.tdiv d - 1) * d := by rw [Int.sub_mul]; omega
    have h4 : n / d = (n.tmod d + d) / d + (n.tdiv d - 1) := by
      conv => lhs; rw [h3]
      exact Int.add_mul_ediv_right _ _ (by omega)
    rw [h4, Int.ediv_eq_zero_of_lt (by omega) (by omega)]
    omega
  · next h =>
    have h3 : n = n.tmod d + n.tdiv d * d := by omega
    have h4 : n / d = n.tmod d / d + n.tdiv d := by
      conv => lhs; rw [h3]
      exact Int.add_mul_ediv_right _ _ (by omega)
    rw [h4, Int.ediv_eq_zero_of_lt (by omega) (by omega)]
    omega
theorem floor_fits {n d : Int} (hn : R256 n) (hd : 0 < d) : R256 (n / d) := by
  unfold R256 at *
  constructor
  · have : -57896044618658097711785492504343953926634992332820282019728792003956564819968 ≤ n / d := by
      rw [Int.le_ediv_iff_mul_le hd]
      have h3 : -57896044618658097711785492504343953926634992332820282019728792003956564819968 * d ≤ -57896044618658097711785492504343953926634992332820282019728792003956564819968 * 1 := Int.mul_le_mul_of_nonpos_left (by omega) (by omega)
      omega
    exact this
  · refine Int.ediv_lt_of_lt_mul hd ?_
    have h3 : (57896044618658097711785492504343953926634992332820282019728792003956564819968 : Int) * 1 ≤ 57896044618658097711785492504343953926634992332820282019728792003956564819968 * d := Int.mul_le_mul_of_nonneg_left (by omega) (by omega)
    omega
/-- The greatest whole number not above a right fraction. -/
def floorR (n d : Int) : Int := if rightB n d then n / d else 0
theorem right_pos {n d : Int} (h : rightB n d = true) : 0 < d ∧ gcdZ n d = 1 := by unfold rightB at h; simpa using h
set_option maxRecDepth 100000 in
set_option maxHeartbeats 8000000 in
theorem ratFloor_any (n d : Int) (hn : R256 n) (hd : R256 d) (w : World) :
    Calls Try.prog 34 #[rV n d] w fun e' w' => e' = .returned (iV (floorR n d)) ∧ Below w.heap.size w w' := by
  have H := Own.start w
  have hR := fun w => Right_any n d hn hd w
  have ho := of_1
  by_cases h : rightB n d = true
  · have hp := (right_pos h).1
    have hF : floorR n d = n / d := by unfold floorR; rw [if_pos h]
    have d1 := fun w => Div_any n d hn hd w
    have hE : divE n d = 0 := by
      unfold divE errZ
      rw [if_neg (by omega : ¬ d = 0), if_pos (tdiv_fits hn hp)]
    have hQ : divQ n d = n.tdiv d := divQ_fits hn hp
    have hD : divR n d = n.tmod d := by unfold divR; rw [if_pos hE]
    rw [hQ, hD] at d1
    have rr : R256 (n.tmod d) := rest_fits hn
    have rq : R256 (n.tdiv d) := tdiv_fits hn hp
    have hs := fun w => sign_any _ rr w
    have hSb := fun w => sub_any _ 1 rq r256_1 w
    have ff := floor_fits hn hp
    rw [hF]
    rw [h] at hR
    have fq := floor_tdiv (n := n) hp
    by_cases hr : n.tmod d < 0
    · rw [if_pos hr] at fq
      rw [show signZ (n.tmod d) = -1 by unfold signZ; rw [if_pos hr]] at hs
      rw [fq]
      rw [fq] at ff
      rw [(show fitZ (n.tdiv d - 1) = n.tdiv d - 1 by unfold fitZ; rw [if_pos ff])] at hSb
      clear hp hF hE hQ hD rr rq ff hr fq h
      generalize n.tdiv d - 1 = v at *
      generalize n.tdiv d = q at *
      generalize n.tmod d = r at *
      generalize errZ v = e at *
      go_enter Try.func34, Try.ntmps34
      have tk0 : True := trivial
      have tk1 : True := trivial
      have tk2 : True := trivial
      have tk3 : True := trivial
      go_wp2_with (first
        | (guard_target =~ Code.wp _ (Code.region 5 _ true) _ _ _; replace H := H.front1; refine region_tree 5 1 (G := True) (.both (.e 0 (.e 1 (.e 2 (.q 3 (.q 4 (.q 5 (.e 6 .nil))))))) (.e 1 (.e 0 (.e 2 (.q 3 (.q 4 (.q 5 (.e 6 .nil)))))))) (by kernel_rfl) (by intro c a d v w h; cases d <;> exact h) (by kernel_rfl) H ⟨trivial⟩ (fun _ w3 H2 => ?_); (clear H; (try clear w2); revert w3; intro w2 H); simp only [List.drop_succ_cons, List.drop_zero])
        | (go_at_call 19; (with_reducible refine (hR _).mono ?_); rintro e w3 ⟨rfl, hb⟩; replace H := H.ext hb; clear hb; dsimp only; (skip))
        | (go_at_call 53; (with_reducible refine (d1 _).mono ?_); rintro e w3 ⟨rfl, hb⟩; replace H := H.ext hb; clear hb; dsimp only; (skip))
        | (go_at_call 54; (with_reducible refine (hs _).mono ?_); rintro e w3 ⟨rfl, hb⟩; replace H := H.ext hb; clear hb; dsimp only; (skip))
        | (go_at_call 58; (with_reducible refine (ho _).mono ?_); rintro e w3 ⟨rfl, hb⟩; replace H := H.ext hb; clear hb; dsimp only; (refine hK _ _ ⟨_, H, by repeat first | exact .here | apply Suf.there⟩ ?_; clear hK K; (try simp only [Act.put, List.setIfInBounds_toArray, List.set_cons_succ, List.set_cons_zero, cells_iV, iL_length, setL_i, setL_ii, agg_iL, cells_rV, rL_length, setL_r, setL_rr, agg_rL])))
        | (go_at_call 66; (with_reducible refine (hSb _).mono ?_); rintro e w3 ⟨rfl, hb⟩; replace H := H.ext hb; clear hb; dsimp only; (refine hK _ _ ⟨_, H, by repeat first | exact .here | apply Suf.there⟩ ?_; clear hK K; (try simp only [Act.put, List.setIfInBounds_toArray, List.set_cons_succ, List.set_cons_zero, cells_iV, iL_length, setL_i, setL_ii, agg_iL, cells_rV, rL_length, setL_r, setL_rr, agg_rL])))
        | (guard_target =~ wpList _ _ _ (_ :: _) _ _; (first | (guard_target =~ wpList _ _ _ (Oper.mk _ (.load _ _) _ _ _ _ :: _) _ _; refine BigFrame.wpList_want rfl (fun K hK => ?_); (first | (refine o_loadNum (n := ?_) (d := ?_) rfl rfl H ?_ ?_ ?_ (hK _ _ ?_); rotate_left 2; (repeat first | exact .head _ | apply List.Mem.tail); (focus (intro _; simp [cells_iV, iL_length, setL_i, setL_ii, agg_iL, cells_rV, rL_length, setL_r, setL_rr, agg_rL]; done)); (focus (intro _; simp [cells_iV, iL_length, setL_i, setL_ii, agg_iL, cells_rV, rL_length, setL_r, setL_rr, agg_rL]; done))) | (refine o_loadDen (n := ?_) (d := ?_) rfl rfl H ?_ ?_ ?_ (hK _ _ ?_); rotate_left 2; (repeat first | exact .head _ | apply List.Mem.tail); (focus (intro _; simp [cells_iV, iL_length, setL_i, setL_ii, agg_iL, cells_rV, rL_length, setL_r, setL_rr, agg_rL]; done)); (focus (intro _; simp [cells_iV, iL_length, setL_i, setL_ii, agg_iL, cells_rV, rL_length, setL_r, setL_rr, agg_rL]; done))) | (refine o_loadNC (row := ?_) rfl rfl H ?_ ?_ ?_ (hK _ _ ?_); rotate_left 1; (repeat first | exact .head _ | apply List.Mem.tail); (focus (intro _; simp [cells_iV, iL_length, setL_i, setL_ii, agg_iL, cells_rV, rL_length, setL_r, setL_rr, agg_rL]; done)); (focus (intro _; simp [cells_iV, iL_length, setL_i, setL_ii, agg_iL, cells_rV, rL_length, setL_r, setL_rr, agg_rL]; done)))); clear hK K) | (guard_target =~ wpList _ _ _ (Oper.mk _ (.store _ _ _) _ _ _ _ :: _) _ _; refine BigFrame.wpList_want rfl (fun K hK => ?_); refine o_store (l' := ?_) (row := ?_) rfl rfl H rfl ?_ ?_ ?_ ?_ (fun w3 H2 => hK _ _ ?_); rotate_left 2; (first | exact r0 | exact r1 | exact r2); (focus (intro _; (simp [Act.eval, List.getD, cells_iV, iL_length, setL_i, setL_ii, agg_iL, cells_rV, rL_length, setL_r, setL_rr, agg_rL]; done))); (focus (simp [Act.eval, List.getD, cells_iV, iL_length, setL_i, setL_ii, agg_iL, cells_rV, rL_length, setL_r, setL_rr, agg_rL]; done)); (exact rfl); clear hK K; clear H; (try clear w2); revert w3; intro w2 H; (try simp [Act.eval, List.getD, cells_iV, iL_length, setL_i, setL_ii, agg_iL, cells_rV, rL_length, setL_r, setL_rr, agg_rL] at H); (try simp [Value.cells, setL, cells_iV, iL_length, setL_i, setL_ii, agg_iL, cells_rV, rL_length, setL_r, setL_rr, agg_rL] at H)) | ((first | (guard_target =~ wpList _ _ _ (Oper.mk _ (.alloc _) _ _ _ _ :: _) _ _; refine BigFrame.wpList_want rfl (fun K hK => ?_); refine o_alloc (z := ?_) rfl ?_ H rfl (fun w3 b2 he H2 => hK _ _ ?_); rotate_left 1; (focus (intro _; simp; with_reducible exact rfl))) | (guard_target =~ wpList _ _ _ (Oper.mk _ (.box _ _) _ _ _ _ :: _) _ _; refine BigFrame.wpList_want rfl (fun K hK => ?_); refine o_box rfl H rfl (fun w3 b2 he H2 => hK _ _ ?_))); clear hK K he; clear H; (try clear w2); revert w3; intro w2 H; (try simp [Act.eval, List.getD, cells_iV, iL_length, setL_i, setL_ii, agg_iL, cells_rV, rL_length, setL_r, setL_rr, agg_rL] at H); (try simp [Value.cells, setL, cells_iV, iL_length, setL_i, setL_ii, agg_iL, cells_rV, rL_length, setL_r, setL_rr, agg_rL] at H); (first | (clear tk0; rename Nat => c1) | (clear tk1; rename Nat => c2) | (clear tk2; rename Nat => c3) | (clear tk3; rename Nat => c4)))); simp only [Act.put, List.setIfInBounds_toArray, List.set_cons_succ, List.set_cons_zero, cells_iV, iL_length, setL_i, setL_ii, agg_iL, cells_rV, rL_length, setL_r, setL_rr, agg_rL])
        | (guard_target =~ wpTree _ _ _ _ _ _ _; first | (guard_target =~ wpTree _ _ _ (Tr.q _ _) _ _ _; first | (refine tree_quiet ⟨_, H, by repeat first | exact .here | apply Suf.there⟩ rfl rfl rfl (fun K hK => ?_); simp only [List.getElem_toArray, List.getElem_cons_succ, List.getElem_cons_zero]; first | (guard_target =~ Oper.quiet _ (Oper.mk _ (.load _ _) _ _ _ _) _ _ _; (first | fail); clear hK K; simp only [Act.put, List.setIfInBounds_toArray, List.set_cons_succ, List.set_cons_zero, cells_iV, iL_length, setL_i, setL_ii, agg_iL, cells_rV, rL_length, setL_r, setL_rr, agg_rL]) | (go_big_quiet_op; (try refine ⟨_, fun _ _ => rfl, ?_⟩); refine hK _ ?_; clear hK K)) | (refine tree_skip ⟨_, H, by repeat first | exact .here | apply Suf.there⟩ rfl rfl ?_; simp only [List.getElem_toArray, List.getElem_cons_succ, List.getElem_cons_zero, Act.put, List.setIfInBounds_toArray, List.set_cons_succ, List.set_cons_zero])) | (guard_target =~ wpTree _ _ _ (Tr.both _ _) _ _ _; refine tree_both ?_ ?_) | (guard_target =~ wpTree _ _ _ (Tr.e _ _) _ _ _; first | (refine tree_one rfl rfl (fun K hK => ?_); simp only [List.getElem_toArray, List.getElem_cons_succ, List.getElem_cons_zero]; first | ((first | (guard_target =~ Oper.wp _ (Oper.mk _ (.store _ _ _) _ _ _ _) _ _ _ _; refine o_store (l' := ?_) (row := ?_) rfl rfl H rfl ?_ ?_ ?_ ?_ (fun w3 H2 => hK _ _ ⟨_, H2, ?_⟩ ?_); rotate_left 2; (exact r0); (focus (intro _; (simp [Act.eval, List.getD, cells_iV, iL_length, setL_i, setL_ii, agg_iL, cells_rV, rL_length, setL_r, setL_rr, agg_rL]; done))); (focus (simp [Act.eval, List.getD, cells_iV, iL_length, setL_i, setL_ii, agg_iL, cells_rV, rL_length, setL_r, setL_rr, agg_rL]; done)); (exact rfl); (guard_target =~ Suf _ _; repeat first | exact .here | apply Suf.there); clear hK K; clear H; (try clear w2); revert w3; intro w2 H; (try simp [Act.eval, List.getD, cells_iV, iL_length, setL_i, setL_ii, agg_iL, cells_rV, rL_length, setL_r, setL_rr, agg_rL] at H); (try simp [Value.cells, setL, cells_iV, iL_length, setL_i, setL_ii, agg_iL, cells_rV, rL_length, setL_r, setL_rr, agg_rL] at H)) | (guard_target =~ Oper.wp _ (Oper.mk _ (.load _ _) _ _ _ _) _ _ _ _; (refine o_loadNC (row := ?_) rfl rfl H ?_ ?_ ?_ (hK _ _ ⟨_, H, by repeat first | exact .here | apply Suf.there⟩ ?_); rotate_left 1; (repeat first | exact .head _ | apply List.Mem.tail); (focus (intro _; simp [cells_iV, iL_length, setL_i, setL_ii, agg_iL, cells_rV, rL_length, setL_r, setL_rr, agg_rL]; done)); (focus (intro _; simp [cells_iV, iL_length, setL_i, setL_ii, agg_iL, cells_rV, rL_length, setL_r, setL_rr, agg_rL]; done))); clear hK K)); simp only [Act.put, List.setIfInBounds_toArray, List.set_cons_succ, List.set_cons_zero, cells_iV, iL_length, setL_i, setL_ii, agg_iL, cells_rV, rL_length, setL_r, setL_rr, agg_rL]) | (go_big_op; (skip))) | (refine tree_one_skip ⟨_, H, by repeat first | exact .here | apply Suf.there⟩ rfl rfl ?_; simp only [List.getElem_toArray, List.getElem_cons_succ, List.getElem_cons_zero, Act.put, List.setIfInBounds_toArray, List.set_cons_succ, List.set_cons_zero])) | (guard_target =~ wpTree _ _ _ Tr.nil _ _ _; refine tree_nil ?_)))
      all_goals
        have hr := H.loadVarN (P := Try.prog) (ty := 24) m2 (by simp) (by simp [iL_length])
        exact bodyPost_ret (v := iV v) (by simp [results, Try.results34, asAddr, hr, agg_iL]) rfl ⟨rfl, H.below⟩
    · rw [if_neg hr] at fq
      rw [fq]
      have hS : signZ (n.tmod d) = 0 ∨ signZ (n.tmod d) = 1 := by
        unfold signZ
        rw [if_neg hr]
        split
        · exact .inl rfl
        · exact .inr rfl
      clear hp hF hE hQ hD rr rq ff hr fq h
      generalize n.tdiv d = q at *
      generalize signZ (n.tmod d) = s at *
      generalize n.tmod d = r at *
      rcases hS with rfl | rfl
      all_goals
        go_enter Try.func34, Try.ntmps34
        have tk0 : True := trivial
        have tk1 : True := trivial
        have tk2 : True := trivial
        have tk3 : True := trivial
        go_wp2_with (first
          | (go_at_call 19; (with_reducible refine (hR _).mono ?_); rintro e w3 ⟨rfl, hb⟩; replace H := H.ext hb; clear hb; dsimp only)
          | (go_at_call 53; (with_reducible refine (d1 _).mono ?_); rintro e w3 ⟨rfl, hb⟩; replace H := H.ext hb; clear hb; dsimp only)
          | (go_at_call 54; (with_reducible refine (hs _).mono ?_); rintro e w3 ⟨rfl, hb⟩; replace H := H.ext hb; clear hb; dsimp only)
          | (guard_target =~ wpList _ _ _ (_ :: _) _ _; (first | (guard_target =~ wpList _ _ _ (Oper.mk _ (.load _ _) _ _ _ _ :: _) _ _; refine BigFrame.wpList_want rfl (fun K hK => ?_); (first | (refine o_loadNum (n := ?_) (d := ?_) rfl rfl H ?_ ?_ ?_ (hK _ _ ?_); rotate_left 2; (repeat first | exact .head _ | apply List.Mem.tail); (focus (intro _; simp [cells_iV, iL_length, setL_i, setL_ii, agg_iL, cells_rV, rL_length, setL_r, setL_rr, agg_rL]; done)); (focus (intro _; simp [cells_iV, iL_length, setL_i, setL_ii, agg_iL, cells_rV, rL_length, setL_r, setL_rr, agg_rL]; done))) | (refine o_loadDen (n := ?_) (d := ?_) rfl rfl H ?_ ?_ ?_ (hK _ _ ?_); rotate_left 2; (repeat first | exact .head _ | apply List.Mem.tail); (focus (intro _; simp [cells_iV, iL_length, setL_i, setL_ii, agg_iL, cells_rV, rL_length, setL_r, setL_rr, agg_rL]; done)); (focus (intro _; simp [cells_iV, iL_length, setL_i, setL_ii, agg_iL, cells_rV, rL_length, setL_r, setL_rr, agg_rL]; done))) | (refine o_loadNC (row := ?_) rfl rfl H ?_ ?_ ?_ (hK _ _ ?_); rotate_left 1; (repeat first | exact .head _ | apply List.Mem.tail); (focus (intro _; simp [cells_iV, iL_length, setL_i, setL_ii, agg_iL, cells_rV, rL_length, setL_r, setL_rr, agg_rL]; done)); (focus (intro _; simp [cells_iV, iL_length, setL_i, setL_ii, agg_iL, cells_rV, rL_length, setL_r, setL_rr, agg_rL]; done)))); clear hK K) | (guard_target =~ wpList _ _ _ (Oper.mk _ (.store _ _ _) _ _ _ _ :: _) _ _; refine BigFrame.wpList_want rfl (fun K hK => ?_); refine o_store (l' := ?_) (row := ?_) rfl rfl H rfl ?_ ?_ ?_ ?_ (fun w3 H2 => hK _ _ ?_); rotate_left 2; (first | exact r0 | exact r1 | exact r2); (focus (intro _; (simp [Act.eval, List.getD, cells_iV, iL_length, setL_i, setL_ii, agg_iL, cells_rV, rL_length, setL_r, setL_rr, agg_rL]; done))); (focus (simp [Act.eval, List.getD, cells_iV, iL_length, setL_i, setL_ii, agg_iL, cells_rV, rL_length, setL_r, setL_rr, agg_rL]; done)); (exact rfl); clear hK K; clear H; (try clear w2); revert w3; intro w2 H; (try simp [Act.eval, List.getD, cells_iV, iL_length, setL_i, setL_ii, agg_iL, cells_rV, rL_length, setL_r, setL_rr, agg_rL] at H); (try simp [Value.cells, setL, cells_iV, iL_length, setL_i, setL_ii, agg_iL, cells_rV, rL_length, setL_r, setL_rr, agg_rL] at H)) | ((first | (guard_target =~ wpList _ _ _ (Oper.mk _ (.alloc _) _ _ _ _ :: _) _ _; refine BigFrame.wpList_want rfl (fun K hK => ?_); refine o_alloc (z := ?_) rfl ?_ H rfl (fun w3 b2 he H2 => hK _ _ ?_); rotate_left 1; (focus (intro _; simp; with_reducible exact rfl))) | (guard_target =~ wpList _ _ _ (Oper.mk _ (.box _ _) _ _ _ _ :: _) _ _; refine BigFrame.wpList_want rfl (fun K hK => ?_); refine o_box rfl H rfl (fun w3 b2 he H2 => hK _ _ ?_))); clear hK K he; clear H; (try clear w2); revert w3; intro w2 H; (try simp [Act.eval, List.getD, cells_iV, iL_length, setL_i, setL_ii, agg_iL, cells_rV, rL_length, setL_r, setL_rr, agg_rL] at H); (try simp [Value.cells, setL, cells_iV, iL_length, setL_i, setL_ii, agg_iL, cells_rV, rL_length, setL_r, setL_rr, agg_rL] at H); (first | (clear tk0; rename Nat => c1) | (clear tk1; rename Nat => c2) | (clear tk2; rename Nat => c3) | (clear tk3; rename Nat => c4)))); simp only [Act.put, List.setIfInBounds_toArray, List.set_cons_succ, List.set_cons_zero, cells_iV, iL_length, setL_i, setL_ii, agg_iL, cells_rV, rL_length, setL_r, setL_rr, agg_rL]))
        have hr := H.loadVarN (P := Try.prog) (ty := 24) m2 (by simp) (by simp [iL_length])
        exact bodyPost_ret (v := iV q) (by simp [results, Try.results34, asAddr, hr, agg_iL]) rfl ⟨rfl, H.below⟩
  · have h2 : rightB n d = false := by simpa using h
    have hF : floorR n d = 0 := by unfold floorR; rw [if_neg h]
    rw [hF, iV_zero]
    rw [h2] at hR
    clear h h2 hF
    go_enter Try.func34, Try.ntmps34
    have tk0 : True := trivial
    have tk1 : True := trivial
    have tk2 : True := trivial
    have tk3 : True := trivial
    go_wp2_with (first
      | (go_at_call 19; (with_reducible refine (hR _).mono ?_); rintro e w3 ⟨rfl, hb⟩; replace H := H.ext hb; clear hb; dsimp only)
      | (guard_target =~ wpList _ _ _ (_ :: _) _ _; (first | (guard_target =~ wpList _ _ _ (Oper.mk _ (.load _ _) _ _ _ _ :: _) _ _; refine BigFrame.wpList_want rfl (fun K hK => ?_); (refine o_loadNC (row := ?_) rfl rfl H ?_ ?_ ?_ (hK _ _ ?_); rotate_left 1; (repeat first | exact .head _ | apply List.Mem.tail); (focus (intro _; simp [cells_iV, iL_length, setL_i, setL_ii, agg_iL, cells_rV, rL_length, setL_r, setL_rr, agg_rL]; done)); (focus (intro _; simp [cells_iV, iL_length, setL_i, setL_ii, agg_iL, cells_rV, rL_length, setL_r, setL_rr, agg_rL]; done))); clear hK K) | (guard_target =~ wpList _ _ _ (Oper.mk _ (.store _ _ _) _ _ _ _ :: _) _ _; refine BigFrame.wpList_want rfl (fun K hK => ?_); refine o_store (l' := ?_) (row := ?_) rfl rfl H rfl ?_ ?_ ?_ ?_ (fun w3 H2 => hK _ _ ?_); rotate_left 2; (exact r0); (focus (intro _; (simp [Act.eval, Value.cells, List.getD, cells_iV, iL_length, setL_i, setL_ii, agg_iL, cells_rV, rL_length, setL_r, setL_rr, agg_rL]; done))); (focus (simp [Act.eval, Value.cells, List.getD, cells_iV, iL_length, setL_i, setL_ii, agg_iL, cells_rV, rL_length, setL_r, setL_rr, agg_rL]; done)); (exact rfl); clear hK K; clear H; (try clear w2); revert w3; intro w2 H; (try simp [Act.eval, List.getD, cells_iV, iL_length, setL_i, setL_ii, agg_iL, cells_rV, rL_length, setL_r, setL_rr, agg_rL] at H); (try simp [Value.cells, setL, cells_iV, iL_length, setL_i, setL_ii, agg_iL, cells_rV, rL_length, setL_r, setL_rr, agg_rL] at H)) | ((first | (guard_target =~ wpList _ _ _ (Oper.mk _ (.alloc _) _ _ _ _ :: _) _ _; refine BigFrame.wpList_want rfl (fun K hK => ?_); refine o_alloc (z := ?_) rfl ?_ H rfl (fun w3 b2 he H2 => hK _ _ ?_); rotate_left 1; (focus (intro _; simp; with_reducible exact rfl))) | (guard_target =~ wpList _ _ _ (Oper.mk _ (.box _ _) _ _ _ _ :: _) _ _; refine BigFrame.wpList_want rfl (fun K hK => ?_); refine o_box rfl H rfl (fun w3 b2 he H2 => hK _ _ ?_))); clear hK K he; clear H; (try clear w2); revert w3; intro w2 H; (try simp [Act.eval, List.getD, cells_iV, iL_length, setL_i, setL_ii, agg_iL, cells_rV, rL_length, setL_r, setL_rr, agg_rL] at H); (try simp [Value.cells, setL, cells_iV, iL_length, setL_i, setL_ii, agg_iL, cells_rV, rL_length, setL_r, setL_rr, agg_rL] at H); (first | (clear tk0; rename Nat => c1) | (clear tk1; rename Nat => c2)))); simp only [Act.put, List.setIfInBounds_toArray, List.set_cons_succ, List.set_cons_zero, cells_iV, iL_length, setL_i, setL_ii, agg_iL, cells_rV, rL_length, setL_r, setL_rr, agg_rL]))
    have hr := H.loadVarN (P := Try.prog) (ty := 24) m0 (by simp) (by simp)
    exact bodyPost_ret (v := .agg #[.int .u64 0, .int .u64 0, .int .u64 0, .int .u64 0]) (by simp [results, Try.results34, asAddr, hr]) rfl ⟨rfl, H.below⟩
/-- The text of a fraction. -/
def textR (n d : Int) : List UInt8 := if rightB n d then (if d = 1 then textL n else textL n ++ [47] ++ textL d) else []
theorem text_len {x : Int} (hx : R256 x) : (⟨(textL x).toArray⟩ : ByteArray).size ≤ 1000 := by
  have h : x.natAbs < 2 ^ 256 := by
    have e : (2 : Nat) ^ 256 = 115792089237316195423570985008687907853269984665640564039457584007913129639936 := by decide
    have := abs256 hx
    rw [e]; omega
  have h2 := decL_len 256 x.natAbs h
  have h3 : (⟨(textL x).toArray⟩ : ByteArray).size = (textL x).length := by simp [ByteArray.size]
  rw [h3]
  unfold textL
  rw [List.length_append]
  split <;> simp <;> omega
theorem str3 (l m : List UInt8) : (⟨l.toArray⟩ : ByteArray) ++ ⟨#[47]⟩ ++ ⟨m.toArray⟩ = ⟨(l ++ [47] ++ m).toArray⟩ := by
  rw [← str_add, ← str_add]
set_option maxRecDepth 100000 in
set_option maxHeartbeats 8000000 in
theorem ratText_any (n d : Int) (hn : R256 n) (hd : R256 d) (w : World) :
    Calls Try.prog 35 #[rV n d] w fun e' w' => e' = .returned (.string ⟨(textR n d).toArray⟩) ∧ Below w.heap.size w w' := by
  have H := Own.start w
  have hR := fun w => Right_any n d hn hd w
  have ho := of_1
  have hq := eq_iV d 1 hd r256_1
  have g1 := guard_iVV
  have tn := fun w => Text_any n hn w
  have td := fun w => Text_any d hd w
  by_cases h : rightB n d = true
  · rw [h] at hR
    by_cases h1 : d = 1
    · have hT : textR n d = textL n := by unfold textR; rw [if_pos h, if_pos h1]
      rw [show decide (d = 1) = true by simpa using h1] at hq
      rw [hT]
      clear hT h h1 td
      generalize textL n = s at *
      go_enter Try.func35, Try.ntmps35
      have tk0 : True := trivial
      go_wp2_with (first
        | (guard_target =~ Code.wp _ (Code.region 3 _ true) _ _ _; refine region_tree0 3 (G := True) (.q 0 (.q 1 (.e 2 (.q 3 (.q 4 .nil))))) (by kernel_rfl) (by intro c a d v w h; cases d <;> exact h) (by kernel_rfl) H ⟨trivial⟩ (fun _ w3 H2 => ?_); (clear H; (try clear w2); revert w3; intro w2 H))
        | (go_at_call 19; (with_reducible refine (hR _).mono ?_); rintro e w3 ⟨rfl, hb⟩; replace H := H.ext hb; clear hb; dsimp only; (skip))
        | (go_at_call 58; (with_reducible refine (ho _).mono ?_); rintro e w3 ⟨rfl, hb⟩; replace H := H.ext hb; clear hb; dsimp only; (refine hK _ _ ⟨_, H, by repeat first | exact .here | apply Suf.there⟩ ?_; clear hK K; (try simp only [Act.put, List.setIfInBounds_toArray, List.set_cons_succ, List.set_cons_zero, cells_iV, iL_length, setL_i, setL_ii, agg_iL, cells_rV, rL_length, setL_r, setL_rr, agg_rL])))
        | (go_at_call 67; (with_reducible refine (tn _).mono ?_); rintro e w3 ⟨rfl, hb⟩; replace H := H.ext hb; clear hb; dsimp only; (skip))
        | (guard_target =~ wpList _ _ _ (_ :: _) _ _; (first | (guard_target =~ wpList _ _ _ (Oper.mk _ (.load _ _) _ _ _ _ :: _) _ _; refine BigFrame.wpList_want rfl (fun K hK => ?_); (first | (refine o_loadNum (n := ?_) (d := ?_) rfl rfl H ?_ ?_ ?_ (hK _ _ ?_); rotate_left 2; (repeat first | exact .head _ | apply List.Mem.tail); (focus (intro _; simp [cells_iV, iL_length, setL_i, setL_ii, agg_iL, cells_rV, rL_length, setL_r, setL_rr, agg_rL]; done)); (focus (intro _; simp [cells_iV, iL_length, setL_i, setL_ii, agg_iL, cells_rV, rL_length, setL_r, setL_rr, agg_rL]; done))) | (refine o_loadNC (row := ?_) rfl rfl H ?_ ?_ ?_ (hK _ _ ?_); rotate_left 1; (repeat first | exact .head _ | apply List.Mem.tail); (focus (intro _; simp [cells_iV, iL_length, setL_i, setL_ii, agg_iL, cells_rV, rL_length, setL_r, setL_rr, agg_rL]; done)); (focus (intro _; simp [cells_iV, iL_length, setL_i, setL_ii, agg_iL, cells_rV, rL_length, setL_r, setL_rr, agg_rL]; done)))); clear hK K) | ((guard_target =~ wpList _ _ _ (Oper.mk _ (.box _ _) _ _ _ _ :: _) _ _; refine BigFrame.wpList_want rfl (fun K hK => ?_); refine o_box rfl H rfl (fun w3 b2 he H2 => hK _ _ ?_)); clear hK K he; clear H; (try clear w2); revert w3; intro w2 H; (try simp [Act.eval, List.getD, cells_iV, iL_length, setL_i, setL_ii, agg_iL, cells_rV, rL_length, setL_r, setL_rr, agg_rL] at H); (try simp [Value.cells, setL, cells_iV, iL_length, setL_i, setL_ii, agg_iL, cells_rV, rL_length, setL_r, setL_rr, agg_rL] at H); (clear tk0; rename Nat => c1))); simp only [Act.put, List.setIfInBounds_toArray, List.set_cons_succ, List.set_cons_zero, cells_iV, iL_length, setL_i, setL_ii, agg_iL, cells_rV, rL_length, setL_r, setL_rr, agg_rL])
        | (guard_target =~ wpTree _ _ _ _ _ _ _; first | (guard_target =~ wpTree _ _ _ (Tr.q _ _) _ _ _; first | (refine tree_quiet ⟨_, H, by repeat first | exact .here | apply Suf.there⟩ rfl rfl rfl (fun K hK => ?_); simp only [List.getElem_toArray, List.getElem_cons_succ, List.getElem_cons_zero]; first | (guard_target =~ Oper.quiet _ (Oper.mk _ (.load _ _) _ _ _ _) _ _ _; (refine q_loadDen (n := ?_) (d := ?_) rfl rfl ?_ ?_ ?_ (hK _ ?_); rotate_left 2; (repeat first | exact .head _ | apply List.Mem.tail); (focus (intro _; simp [cells_iV, iL_length, setL_i, setL_ii, agg_iL, cells_rV, rL_length, setL_r, setL_rr, agg_rL]; done)); (focus (intro _; simp [cells_iV, iL_length, setL_i, setL_ii, agg_iL, cells_rV, rL_length, setL_r, setL_rr, agg_rL]; done))); clear hK K; simp only [Act.put, List.setIfInBounds_toArray, List.set_cons_succ, List.set_cons_zero, cells_iV, iL_length, setL_i, setL_ii, agg_iL, cells_rV, rL_length, setL_r, setL_rr, agg_rL]) | (go_big_quiet_op; (try refine ⟨_, fun _ _ => rfl, ?_⟩); refine hK _ ?_; clear hK K)) | (refine tree_skip ⟨_, H, by repeat first | exact .here | apply Suf.there⟩ rfl rfl ?_; simp only [List.getElem_toArray, List.getElem_cons_succ, List.getElem_cons_zero, Act.put, List.setIfInBounds_toArray, List.set_cons_succ, List.set_cons_zero])) | (guard_target =~ wpTree _ _ _ (Tr.both _ _) _ _ _; refine tree_both ?_ ?_) | (guard_target =~ wpTree _ _ _ (Tr.e _ _) _ _ _; first | (refine tree_one rfl rfl (fun K hK => ?_); simp only [List.getElem_toArray, List.getElem_cons_succ, List.getElem_cons_zero]; first | ((first | fail); simp only [Act.put, List.setIfInBounds_toArray, List.set_cons_succ, List.set_cons_zero, cells_iV, iL_length, setL_i, setL_ii, agg_iL, cells_rV, rL_length, setL_r, setL_rr, agg_rL]) | (go_big_op; (skip))) | (refine tree_one_skip ⟨_, H, by repeat first | exact .here | apply Suf.there⟩ rfl rfl ?_; simp only [List.getElem_toArray, List.getElem_cons_succ, List.getElem_cons_zero, Act.put, List.setIfInBounds_toArray, List.set_cons_succ, List.set_cons_zero])) | (guard_target =~ wpTree _ _ _ Tr.nil _ _ _; refine tree_nil ?_)))
      go_ret
      exact ⟨rfl, H.below⟩
    · have hT : textR n d = textL n ++ [47] ++ textL d := by unfold textR; rw [if_pos h, if_neg h1]
      rw [show decide (d = 1) = false by simpa using h1] at hq
      rw [hT, ← str3]
      have ln := text_len hn
      have ld := text_len hd
      clear hT h h1
      generalize (⟨(textL n).toArray⟩ : ByteArray) = S at *
      generalize (⟨(textL d).toArray⟩ : ByteArray) = T at *
      have k1 : ¬ 9223372036854775807 < S.size + 1 := by omega
      have k2 : ¬ 9223372036854775807 < S.size + 1 + T.size := by omega
      go_enter Try.func35, Try.ntmps35
      have tk0 : True := trivial
      go_wp2_with (first
        | (guard_target =~ Code.wp _ (Code.region 3 _ true) _ _ _; refine region_tree0 3 (G := True) (.q 0 (.q 1 (.e 2 (.q 3 (.q 4 .nil))))) (by kernel_rfl) (by intro c a d v w h; cases d <;> exact h) (by kernel_rfl) H ⟨trivial⟩ (fun _ w3 H2 => ?_); (clear H; (try clear w2); revert w3; intro w2 H))
        | (guard_target =~ Code.wp _ (Code.region 5 _ true) _ _ _; refine region_tree0 5 (G := True) (.q 0 (.q 1 (.q 4 (.q 5 (.e 2 (.q 3 (.e 6 (.q 7 (.q 8 .nil))))))))) (by kernel_rfl) (by intro c a d v w h; cases d <;> exact h) (by kernel_rfl) H ⟨trivial⟩ (fun _ w3 H2 => ?_); (clear H; (try clear w2); revert w3; intro w2 H))
        | (go_at_call 19; (with_reducible refine (hR _).mono ?_); rintro e w3 ⟨rfl, hb⟩; replace H := H.ext hb; clear hb; dsimp only; (skip))
        | (go_at_call 58; (with_reducible refine (ho _).mono ?_); rintro e w3 ⟨rfl, hb⟩; replace H := H.ext hb; clear hb; dsimp only; (refine hK _ _ ⟨_, H, by repeat first | exact .here | apply Suf.there⟩ ?_; clear hK K; (try simp only [Act.put, List.setIfInBounds_toArray, List.set_cons_succ, List.set_cons_zero, cells_iV, iL_length, setL_i, setL_ii, agg_iL, cells_rV, rL_length, setL_r, setL_rr, agg_rL])))
        | (go_at_call 67; (with_reducible refine (tn _).mono ?_); rintro e w3 ⟨rfl, hb⟩; replace H := H.ext hb; clear hb; dsimp only; (refine hK _ _ ⟨_, H, by repeat first | exact .here | apply Suf.there⟩ ?_; clear hK K; (try simp only [Act.put, List.setIfInBounds_toArray, List.set_cons_succ, List.set_cons_zero, cells_iV, iL_length, setL_i, setL_ii, agg_iL, cells_rV, rL_length, setL_r, setL_rr, agg_rL])))
        | (go_at_call 67; (with_reducible refine (td _).mono ?_); rintro e w3 ⟨rfl, hb⟩; replace H := H.ext hb; clear hb; dsimp only; (refine hK _ _ ⟨_, H, by repeat first | exact .here | apply Suf.there⟩ ?_; clear hK K; (try simp only [Act.put, List.setIfInBounds_toArray, List.set_cons_succ, List.set_cons_zero, cells_iV, iL_length, setL_i, setL_ii, agg_iL, cells_rV, rL_length, setL_r, setL_rr, agg_rL])))
        | (guard_target =~ wpList _ _ _ (_ :: _) _ _; (first | (guard_target =~ wpList _ _ _ (Oper.mk _ (.load _ _) _ _ _ _ :: _) _ _; refine BigFrame.wpList_want rfl (fun K hK => ?_); (refine o_loadNC (row := ?_) rfl rfl H ?_ ?_ ?_ (hK _ _ ?_); rotate_left 1; (repeat first | exact .head _ | apply List.Mem.tail); (focus (intro _; simp [cells_iV, iL_length, setL_i, setL_ii, agg_iL, cells_rV, rL_length, setL_r, setL_rr, agg_rL]; done)); (focus (intro _; simp [cells_iV, iL_length, setL_i, setL_ii, agg_iL, cells_rV, rL_length, setL_r, setL_rr, agg_rL]; done))); clear hK K) | ((guard_target =~ wpList _ _ _ (Oper.mk _ (.box _ _) _ _ _ _ :: _) _ _; refine BigFrame.wpList_want rfl (fun K hK => ?_); refine o_box rfl H rfl (fun w3 b2 he H2 => hK _ _ ?_)); clear hK K he; clear H; (try clear w2); revert w3; intro w2 H; (try simp [Act.eval, List.getD, cells_iV, iL_length, setL_i, setL_ii, agg_iL, cells_rV, rL_length, setL_r, setL_rr, agg_rL] at H); (try simp [Value.cells, setL, cells_iV, iL_length, setL_i, setL_ii, agg_iL, cells_rV, rL_length, setL_r, setL_rr, agg_rL] at H); (clear tk0; rename Nat => c1))); simp only [Act.put, List.setIfInBounds_toArray, List.set_cons_succ, List.set_cons_zero, cells_iV, iL_length, setL_i, setL_ii, agg_iL, cells_rV, rL_length, setL_r, setL_rr, agg_rL])
        | (guard_target =~ wpTree _ _ _ _ _ _ _; first | (guard_target =~ wpTree _ _ _ (Tr.q _ _) _ _ _; first | (refine tree_quiet ⟨_, H, by repeat first | exact .here | apply Suf.there⟩ rfl rfl rfl (fun K hK => ?_); simp only [List.getElem_toArray, List.getElem_cons_succ, List.getElem_cons_zero]; first | (guard_target =~ Oper.quiet _ (Oper.mk _ (.load _ _) _ _ _ _) _ _ _; (first | (refine q_loadNum (n := ?_) (d := ?_) rfl rfl ?_ ?_ ?_ (hK _ ?_); rotate_left 2; (repeat first | exact .head _ | apply List.Mem.tail); (focus (intro _; simp [cells_iV, iL_length, setL_i, setL_ii, agg_iL, cells_rV, rL_length, setL_r, setL_rr, agg_rL]; done)); (focus (intro _; simp [cells_iV, iL_length, setL_i, setL_ii, agg_iL, cells_rV, rL_length, setL_r, setL_rr, agg_rL]; done))) | (refine q_loadDen (n := ?_) (d := ?_) rfl rfl ?_ ?_ ?_ (hK _ ?_); rotate_left 2; (repeat first | exact .head _ | apply List.Mem.tail); (focus (intro _; simp [cells_iV, iL_length, setL_i, setL_ii, agg_iL, cells_rV, rL_length, setL_r, setL_rr, agg_rL]; done)); (focus (intro _; simp [cells_iV, iL_length, setL_i, setL_ii, agg_iL, cells_rV, rL_length, setL_r, setL_rr, agg_rL]; done)))); clear hK K; simp only [Act.put, List.setIfInBounds_toArray, List.set_cons_succ, List.set_cons_zero, cells_iV, iL_length, setL_i, setL_ii, agg_iL, cells_rV, rL_length, setL_r, setL_rr, agg_rL]) | (go_big_quiet_op; (try refine ⟨_, fun _ _ => rfl, ?_⟩); refine hK _ ?_; clear hK K)) | (refine tree_skip ⟨_, H, by repeat first | exact .here | apply Suf.there⟩ rfl rfl ?_; simp only [List.getElem_toArray, List.getElem_cons_succ, List.getElem_cons_zero, Act.put, List.setIfInBounds_toArray, List.set_cons_succ, List.set_cons_zero])) | (guard_target =~ wpTree _ _ _ (Tr.both _ _) _ _ _; refine tree_both ?_ ?_) | (guard_target =~ wpTree _ _ _ (Tr.e _ _) _ _ _; first | (refine tree_one rfl rfl (fun K hK => ?_); simp only [List.getElem_toArray, List.getElem_cons_succ, List.getElem_cons_zero]; first | ((first | fail); simp only [Act.put, List.setIfInBounds_toArray, List.set_cons_succ, List.set_cons_zero, cells_iV, iL_length, setL_i, setL_ii, agg_iL, cells_rV, rL_length, setL_r, setL_rr, agg_rL]) | (go_big_op; (skip))) | (refine tree_one_skip ⟨_, H, by repeat first | exact .here | apply Suf.there⟩ rfl rfl ?_; simp only [List.getElem_toArray, List.getElem_cons_succ, List.getElem_cons_zero, Act.put, List.setIfInBounds_toArray, List.set_cons_succ, List.set_cons_zero])) | (guard_target =~ wpTree _ _ _ Tr.nil _ _ _; refine tree_nil ?_)))
      go_ret
      exact ⟨rfl, H.below⟩
  · have h2 : rightB n d = false := by simpa using h
    have hT : textR n d = [] := by unfold textR; rw [if_neg h]
    rw [hT]
    rw [h2] at hR
    clear hT h h2 tn td
    go_enter Try.func35, Try.ntmps35
    have tk0 : True := trivial
    go_wp2_with (first
      | (go_at_call 19; (with_reducible refine (hR _).mono ?_); rintro e w3 ⟨rfl, hb⟩; replace H := H.ext hb; clear hb; dsimp only)
      | (guard_target =~ wpList _ _ _ (_ :: _) _ _; (first | (guard_target =~ wpList _ _ _ (Oper.mk _ (.load _ _) _ _ _ _ :: _) _ _; refine BigFrame.wpList_want rfl (fun K hK => ?_); (refine o_loadNC (row := ?_) rfl rfl H ?_ ?_ ?_ (hK _ _ ?_); rotate_left 1; (repeat first | exact .head _ | apply List.Mem.tail); (focus (intro _; simp [cells_iV, iL_length, setL_i, setL_ii, agg_iL, cells_rV, rL_length, setL_r, setL_rr, agg_rL]; done)); (focus (intro _; simp [cells_iV, iL_length, setL_i, setL_ii, agg_iL, cells_rV, rL_length, setL_r, setL_rr, agg_rL]; done))); clear hK K) | ((guard_target =~ wpList _ _ _ (Oper.mk _ (.box _ _) _ _ _ _ :: _) _ _; refine BigFrame.wpList_want rfl (fun K hK => ?_); refine o_box rfl H rfl (fun w3 b2 he H2 => hK _ _ ?_)); clear hK K he; clear H; (try clear w2); revert w3; intro w2 H; (try simp [Act.eval, List.getD, cells_iV, iL_length, setL_i, setL_ii, agg_iL, cells_rV, rL_length, setL_r, setL_rr, agg_rL] at H); (try simp [Value.cells, setL, cells_iV, iL_length, setL_i, setL_ii, agg_iL, cells_rV, rL_length, setL_r, setL_rr, agg_rL] at H); (clear tk0; rename Nat => c1))); simp only [Act.put, List.setIfInBounds_toArray, List.set_cons_succ, List.set_cons_zero, cells_iV, iL_length, setL_i, setL_ii, agg_iL, cells_rV, rL_length, setL_r, setL_rr, agg_rL]))
    go_ret
    exact ⟨rfl, H.below⟩
end Go.Proofs.Ytmmieilogpmocaa
