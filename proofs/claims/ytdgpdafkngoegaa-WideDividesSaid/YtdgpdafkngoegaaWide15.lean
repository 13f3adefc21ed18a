/-
  The walks of layer 3 (wide): Shl.
-/
import Derived.Test.YtdgpdafkngoegaaWide14
namespace Go.Proofs.Ytdgpdafkngoegaa
set_option linter.unusedVariables false
set_option linter.unusedSimpArgs false
open Go.RowKit

/-- The number in reach that has z's words. -/
def lowZ (z : Int) : Int := z - 115792089237316195423570985008687907853269984665640564039457584007913129639936 * ((z + 57896044618658097711785492504343953926634992332820282019728792003956564819968) / 115792089237316195423570985008687907853269984665640564039457584007913129639936)
theorem lowZ_range (z : Int) : R256 (lowZ z) := by
  unfold lowZ R256
  omega
theorem iV_low (z : Int) : iV (lowZ z) = iV z := by
  unfold lowZ iV
  generalize (z + 57896044618658097711785492504343953926634992332820282019728792003956564819968) / 115792089237316195423570985008687907853269984665640564039457584007913129639936 = q
  have e0 : (z - 115792089237316195423570985008687907853269984665640564039457584007913129639936 * q) % 18446744073709551616 = z % 18446744073709551616 := by omega
  have e1 : (z - 115792089237316195423570985008687907853269984665640564039457584007913129639936 * q) / 18446744073709551616 % 18446744073709551616 = z / 18446744073709551616 % 18446744073709551616 := by omega
  have e2 : (z - 115792089237316195423570985008687907853269984665640564039457584007913129639936 * q) / 340282366920938463463374607431768211456 % 18446744073709551616 = z / 340282366920938463463374607431768211456 % 18446744073709551616 := by omega
  have e3 : (z - 115792089237316195423570985008687907853269984665640564039457584007913129639936 * q) / 6277101735386680763835789423207666416102355444464034512896 % 18446744073709551616 = z / 6277101735386680763835789423207666416102355444464034512896 % 18446744073709551616 := by omega
  rw [e0, e1, e2, e3]
theorem back_iff (x : Int) (m : Nat) (hm : m ≤ 255) : lowZ (x * 2 ^ m) / 2 ^ m = x ↔ R256 (x * 2 ^ m) := by
  have p0 : (0 : Int) < 2 ^ m := Int.pow_pos (by decide)
  have p1 : (2 : Int) ^ m ≤ 57896044618658097711785492504343953926634992332820282019728792003956564819968 := by
    have h1 : (2 : Nat) ^ m ≤ 2 ^ 255 := Nat.pow_le_pow_right (by decide) hm
    have h2 : (((2 : Nat) ^ m : Nat) : Int) = (2 : Int) ^ m := by simp
    have h3 : ((2 : Nat) ^ 255) = 57896044618658097711785492504343953926634992332820282019728792003956564819968 := by decide
    omega
  constructor
  · intro h
    have hl := lowZ_range (x * 2 ^ m)
    have e := Int.mul_ediv_add_emod (lowZ (x * 2 ^ m)) (2 ^ m)
    have r0 := Int.emod_nonneg (lowZ (x * 2 ^ m)) (show (2 : Int) ^ m ≠ 0 by omega)
    have r1 := Int.emod_lt_of_pos (lowZ (x * 2 ^ m)) p0
    rw [h] at e
    have e2 : lowZ (x * 2 ^ m) = x * 2 ^ m - 115792089237316195423570985008687907853269984665640564039457584007913129639936 * ((x * 2 ^ m + 57896044618658097711785492504343953926634992332820282019728792003956564819968) / 115792089237316195423570985008687907853269984665640564039457584007913129639936) := rfl
    rw [Int.mul_comm] at e
    generalize lowZ (x * 2 ^ m) % 2 ^ m = r at *
    generalize lowZ (x * 2 ^ m) = L at *
    generalize x * 2 ^ m = z at *
    have : z = L := by omega
    rw [this]; exact hl
  · intro h
    have e : lowZ (x * 2 ^ m) = x * 2 ^ m := by
      unfold R256 at h
      unfold lowZ
      omega
    rw [e]
    exact Int.mul_ediv_cancel _ (by omega)
/-- What Shl answers, and its errno. -/
def shlE (x n : Int) : Int := if n < 0 then 1 else if x = 0 then 0 else if 255 < n then 3 else errZ (x * 2 ^ n.toNat)
def shlZ (x n : Int) : Int := if shlE x n = 0 then x * 2 ^ n.toNat else 0
set_option maxRecDepth 100000 in
set_option maxHeartbeats 4000000 in
theorem Shl_in (x : Int) (hx : R256 x) (hx0 : x ≠ 0) (m : Nat) (hm : m ≤ 255) (w : World) :
    Calls Try.prog 45 #[iV x, .int .i64 (m : Int)] w fun e w' => e = .returned (.tuple #[iV (fitZ (x * 2 ^ m)), .int .i64 (errZ (x * 2 ^ m))]) ∧ Below w.heap.size w w' := by
  have H := Own.start w
  have hq := eq_iV x 0 hx (by unfold R256; omega)
  rw [iV_zero] at hq
  have g1 := guard_iV
  have g2 := guard_iVV
  have d0 : decide (x = 0) = false := by simpa using hx0
  rw [d0] at hq
  have hu := fun w => up_any x m (m / 64) (m % 64) (by omega) (by omega) (by omega) w
  have hs := fun w => Shr_any (lowZ (x * 2 ^ m)) (lowZ_range _) (m : Int) w
  have hsr : shrZ (lowZ (x * 2 ^ m)) (m : Int) = lowZ (x * 2 ^ m) / 2 ^ m := by
    unfold shrZ
    by_cases h : (m : Int) < 1
    · obtain rfl : m = 0 := by omega
      rw [if_pos h, Int.pow_zero, Int.ediv_one]
    · rw [if_neg h, show (min (m : Int) 255).toNat = m by omega]
  rw [hsr, iV_low] at hs
  have hr : R256 (lowZ (x * 2 ^ m) / 2 ^ m) := by
    have h := lowZ_range (x * 2 ^ m)
    have p0 : (0 : Int) < 2 ^ m := Int.pow_pos (by decide)
    unfold R256 at *
    generalize lowZ (x * 2 ^ m) = L at *
    generalize (2 : Int) ^ m = P at *
    constructor
    · rw [Int.le_ediv_iff_mul_le p0]
      have := Int.mul_le_mul_of_nonneg_left (show 1 ≤ P by omega) (show (0 : Int) ≤ 57896044618658097711785492504343953926634992332820282019728792003956564819968 by decide)
      omega
    · rw [Int.ediv_lt_iff_lt_mul p0]
      have := Int.mul_le_mul_of_nonneg_left (show 1 ≤ P by omega) (show (0 : Int) ≤ 57896044618658097711785492504343953926634992332820282019728792003956564819968 by decide)
      omega
  have hn := ne_iV _ x hr hx
  have hb2 := back_iff x m hm
  have hbd : decide (lowZ (x * 2 ^ m) / 2 ^ m = x) = decide (R256 (x * 2 ^ m)) := by simp [hb2]
  rw [hbd] at hn
  clear hbd hb2 hr hsr d0
  by_cases hR : R256 (x * 2 ^ m)
  · have dR : decide (R256 (x * 2 ^ m)) = true := by simpa using hR
    have hE : errZ (x * 2 ^ m) = 0 := by unfold errZ; rw [if_pos hR]
    have hF : fitZ (x * 2 ^ m) = x * 2 ^ m := by unfold fitZ; rw [if_pos hR]
    rw [hE, hF]
    rw [dR] at hn
    go_enter Try.func45, Try.ntmps45
    have tk0 : True := trivial
    have tk1 : True := trivial
    have tk2 : True := trivial
    go_wp2_with (first
      | (guard_target =~ Code.wp _ (Code.region 8 _ true) _ _ _; refine region_tree0 8 (G := True) (.q 0 (.q 1 (.q 3 (.e 2 (.q 4 .nil))))) (by kernel_rfl) (by intro c a d v w h; cases d <;> exact h) (by kernel_rfl) H ⟨trivial⟩ (fun _ w3 H2 => ?_); (clear H; (try clear w2); revert w3; intro w2 H))
      | (go_at_call 107; (with_reducible refine (hu _).mono ?_); rintro e w3 ⟨rfl, hb⟩; replace H := H.ext hb; clear hb; dsimp only; (skip))
      | (go_at_call 46; (with_reducible refine (hs _).mono ?_); rintro e w3 ⟨rfl, hb⟩; replace H := H.ext hb; clear hb; dsimp only; (refine hK _ _ ⟨_, H, by repeat first | exact .here | apply Suf.there⟩ ?_; clear hK K; (try simp only [Act.put, List.setIfInBounds_toArray, List.set_cons_succ, List.set_cons_zero, cells_iV, iL_length, setL_i, setL_ii, agg_iL])))
      | (guard_target =~ wpList _ _ _ (_ :: _) _ _; (first | (guard_target =~ wpList _ _ _ (Oper.mk _ (.load _ _) _ _ _ _ :: _) _ _; refine BigFrame.wpList_want rfl (fun K hK => ?_); (refine o_loadNC (row := ?_) rfl rfl H ?_ ?_ ?_ (hK _ _ ?_); rotate_left 1; (repeat first | exact .head _ | apply List.Mem.tail); (focus (intro _; simp [cells_iV, iL_length, setL_i, setL_ii, agg_iL]; done)); (focus (intro _; simp [cells_iV, iL_length, setL_i, setL_ii, agg_iL]; done))); clear hK K) | (guard_target =~ wpList _ _ _ (Oper.mk _ (.store _ _ _) _ _ _ _ :: _) _ _; refine BigFrame.wpList_want rfl (fun K hK => ?_); refine o_store (l' := ?_) (row := ?_) rfl rfl H rfl ?_ ?_ ?_ ?_ (fun w3 H2 => hK _ _ ?_); rotate_left 2; (first | exact r0 | exact r1); (focus (intro _; (simp [Act.eval, List.getD, cells_iV, iL_length, setL_i, setL_ii, agg_iL]; done))); (focus (simp [Act.eval, List.getD, cells_iV, iL_length, setL_i, setL_ii, agg_iL]; done)); (exact rfl); clear hK K; clear H; (try clear w2); revert w3; intro w2 H; (try simp [Act.eval, List.getD, cells_iV, iL_length, setL_i, setL_ii, agg_iL] at H); (try simp [Value.cells, setL, cells_iV, iL_length, setL_i, setL_ii, agg_iL] at H)) | ((first | (guard_target =~ wpList _ _ _ (Oper.mk _ (.alloc _) _ _ _ _ :: _) _ _; refine BigFrame.wpList_want rfl (fun K hK => ?_); refine o_alloc (z := ?_) rfl ?_ H rfl (fun w3 b2 he H2 => hK _ _ ?_); rotate_left 1; (focus (intro _; simp; with_reducible exact rfl))) | (guard_target =~ wpList _ _ _ (Oper.mk _ (.box _ _) _ _ _ _ :: _) _ _; refine BigFrame.wpList_want rfl (fun K hK => ?_); refine o_box rfl H rfl (fun w3 b2 he H2 => hK _ _ ?_))); clear hK K he; clear H; (try clear w2); revert w3; intro w2 H; (try simp [Act.eval, List.getD, cells_iV, iL_length, setL_i, setL_ii, agg_iL] at H); (try simp [Value.cells, setL, cells_iV, iL_length, setL_i, setL_ii, agg_iL] at H); (first | (clear tk0; rename Nat => c2) | (clear tk1; rename Nat => c4) | (clear tk2; rename Nat => c6)))); simp only [Act.put, List.setIfInBounds_toArray, List.set_cons_succ, List.set_cons_zero, cells_iV, iL_length, setL_i, setL_ii, agg_iL])
      | (guard_target =~ wpTree _ _ _ _ _ _ _; first | (guard_target =~ wpTree _ _ _ (Tr.q _ _) _ _ _; first | (refine tree_quiet ⟨_, H, by repeat first | exact .here | apply Suf.there⟩ rfl rfl rfl (fun K hK => ?_); simp only [List.getElem_toArray, List.getElem_cons_succ, List.getElem_cons_zero]; first | (guard_target =~ Oper.quiet _ (Oper.mk _ (.load _ _) _ _ _ _) _ _ _; (refine q_loadNC (row := ?_) rfl rfl ?_ ?_ ?_ (hK _ ?_); rotate_left 1; (repeat first | exact .head _ | apply List.Mem.tail); (focus (intro _; simp [cells_iV, iL_length, setL_i, setL_ii, agg_iL]; done)); (focus (intro _; simp [cells_iV, iL_length, setL_i, setL_ii, agg_iL]; done))); clear hK K; simp only [Act.put, List.setIfInBounds_toArray, List.set_cons_succ, List.set_cons_zero, cells_iV, iL_length, setL_i, setL_ii, agg_iL]) | (go_big_quiet_op; (try refine ⟨_, fun _ _ => rfl, ?_⟩); refine hK _ ?_; clear hK K)) | (refine tree_skip ⟨_, H, by repeat first | exact .here | apply Suf.there⟩ rfl rfl ?_; simp only [List.getElem_toArray, List.getElem_cons_succ, List.getElem_cons_zero, Act.put, List.setIfInBounds_toArray, List.set_cons_succ, List.set_cons_zero])) | (guard_target =~ wpTree _ _ _ (Tr.both _ _) _ _ _; refine tree_both ?_ ?_) | (guard_target =~ wpTree _ _ _ (Tr.e _ _) _ _ _; first | (refine tree_one rfl rfl (fun K hK => ?_); simp only [List.getElem_toArray, List.getElem_cons_succ, List.getElem_cons_zero]; first | ((first | fail); simp only [Act.put, List.setIfInBounds_toArray, List.set_cons_succ, List.set_cons_zero, cells_iV, iL_length, setL_i, setL_ii, agg_iL]) | go_big_op) | (refine tree_one_skip ⟨_, H, by repeat first | exact .here | apply Suf.there⟩ rfl rfl ?_; simp only [List.getElem_toArray, List.getElem_cons_succ, List.getElem_cons_zero, Act.put, List.setIfInBounds_toArray, List.set_cons_succ, List.set_cons_zero])) | (guard_target =~ wpTree _ _ _ Tr.nil _ _ _; refine tree_nil ?_)))
    have r4 := H.loadVarN (P := Try.prog) (ty := 24) (b := c4) (by exact m1) (by simp) (by simp [iL_length])
    exact bodyPost_ret (v := .tuple #[iV (x * 2 ^ m), .int .i64 0]) (by simp [results, Try.results45, asAddr, r4, agg_iL]) rfl ⟨rfl, H.below⟩
  · have dR : decide (R256 (x * 2 ^ m)) = false := by simpa using hR
    have hE : errZ (x * 2 ^ m) = 3 := by unfold errZ; rw [if_neg hR]
    have hF : fitZ (x * 2 ^ m) = 0 := by unfold fitZ; rw [if_neg hR]
    rw [hE, hF, iV_zero]
    rw [dR] at hn
    go_enter Try.func45, Try.ntmps45
    have tk0 : True := trivial
    have tk1 : True := trivial
    have tk2 : True := trivial
    go_wp2_with (first
      | (guard_target =~ Code.wp _ (Code.region 8 _ true) _ _ _; refine region_tree0 8 (G := True) (.q 0 (.q 1 (.q 3 (.e 2 (.q 4 .nil))))) (by kernel_rfl) (by intro c a d v w h; cases d <;> exact h) (by kernel_rfl) H ⟨trivial⟩ (fun _ w3 H2 => ?_); (clear H; (try clear w2); revert w3; intro w2 H))
      | (go_at_call 107; (with_reducible refine (hu _).mono ?_); rintro e w3 ⟨rfl, hb⟩; replace H := H.ext hb; clear hb; dsimp only; (skip))
      | (go_at_call 46; (with_reducible refine (hs _).mono ?_); rintro e w3 ⟨rfl, hb⟩; replace H := H.ext hb; clear hb; dsimp only; (refine hK _ _ ⟨_, H, by repeat first | exact .here | apply Suf.there⟩ ?_; clear hK K; (try simp only [Act.put, List.setIfInBounds_toArray, List.set_cons_succ, List.set_cons_zero, cells_iV, iL_length, setL_i, setL_ii, agg_iL])))
      | (guard_target =~ wpList _ _ _ (_ :: _) _ _; (first | (guard_target =~ wpList _ _ _ (Oper.mk _ (.load _ _) _ _ _ _ :: _) _ _; refine BigFrame.wpList_want rfl (fun K hK => ?_); (refine o_loadNC (row := ?_) rfl rfl H ?_ ?_ ?_ (hK _ _ ?_); rotate_left 1; (repeat first | exact .head _ | apply List.Mem.tail); (focus (intro _; simp [cells_iV, iL_length, setL_i, setL_ii, agg_iL]; done)); (focus (intro _; simp [cells_iV, iL_length, setL_i, setL_ii, agg_iL]; done))); clear hK K) | (guard_target =~ wpList _ _ _ (Oper.mk _ (.store _ _ _) _ _ _ _ :: _) _ _; refine BigFrame.wpList_want rfl (fun K hK => ?_); refine o_store (l' := ?_) (row := ?_) rfl rfl H rfl ?_ ?_ ?_ ?_ (fun w3 H2 => hK _ _ ?_); rotate_left 2; (first | exact r0 | exact r1); (focus (intro _; (first | (simp [Act.eval, List.getD, cells_iV, iL_length, setL_i, setL_ii, agg_iL]; done) | (simp [Act.eval, Value.cells, List.getD, cells_iV, iL_length, setL_i, setL_ii, agg_iL]; done)))); (focus (first | (simp [Act.eval, List.getD, cells_iV, iL_length, setL_i, setL_ii, agg_iL]; done) | (simp [Act.eval, Value.cells, List.getD, cells_iV, iL_length, setL_i, setL_ii, agg_iL]; done))); (exact rfl); clear hK K; clear H; (try clear w2); revert w3; intro w2 H; (try simp [Act.eval, List.getD, cells_iV, iL_length, setL_i, setL_ii, agg_iL] at H); (try simp [Value.cells, setL, cells_iV, iL_length, setL_i, setL_ii, agg_iL] at H)) | ((first | (guard_target =~ wpList _ _ _ (Oper.mk _ (.alloc _) _ _ _ _ :: _) _ _; refine BigFrame.wpList_want rfl (fun K hK => ?_); refine o_alloc (z := ?_) rfl ?_ H rfl (fun w3 b2 he H2 => hK _ _ ?_); rotate_left 1; (focus (intro _; simp; with_reducible exact rfl))) | (guard_target =~ wpList _ _ _ (Oper.mk _ (.box _ _) _ _ _ _ :: _) _ _; refine BigFrame.wpList_want rfl (fun K hK => ?_); refine o_box rfl H rfl (fun w3 b2 he H2 => hK _ _ ?_))); clear hK K he; clear H; (try clear w2); revert w3; intro w2 H; (try simp [Act.eval, List.getD, cells_iV, iL_length, setL_i, setL_ii, agg_iL] at H); (try simp [Value.cells, setL, cells_iV, iL_length, setL_i, setL_ii, agg_iL] at H); (first | (clear tk0; rename Nat => c2) | (clear tk1; rename Nat => c4) | (clear tk2; rename Nat => c6)))); simp only [Act.put, List.setIfInBounds_toArray, List.set_cons_succ, List.set_cons_zero, cells_iV, iL_length, setL_i, setL_ii, agg_iL])
      | (guard_target =~ wpTree _ _ _ _ _ _ _; first | (guard_target =~ wpTree _ _ _ (Tr.q _ _) _ _ _; first | (refine tree_quiet ⟨_, H, by repeat first | exact .here | apply Suf.there⟩ rfl rfl rfl (fun K hK => ?_); simp only [List.getElem_toArray, List.getElem_cons_succ, List.getElem_cons_zero]; first | (guard_target =~ Oper.quiet _ (Oper.mk _ (.load _ _) _ _ _ _) _ _ _; (refine q_loadNC (row := ?_) rfl rfl ?_ ?_ ?_ (hK _ ?_); rotate_left 1; (repeat first | exact .head _ | apply List.Mem.tail); (focus (intro _; simp [cells_iV, iL_length, setL_i, setL_ii, agg_iL]; done)); (focus (intro _; simp [cells_iV, iL_length, setL_i, setL_ii, agg_iL]; done))); clear hK K; simp only [Act.put, List.setIfInBounds_toArray, List.set_cons_succ, List.set_cons_zero, cells_iV, iL_length, setL_i, setL_ii, agg_iL]) | (go_big_quiet_op; (try refine ⟨_, fun _ _ => rfl, ?_⟩); refine hK _ ?_; clear hK K)) | (refine tree_skip ⟨_, H, by repeat first | exact .here | apply Suf.there⟩ rfl rfl ?_; simp only [List.getElem_toArray, List.getElem_cons_succ, List.getElem_cons_zero, Act.put, List.setIfInBounds_toArray, List.set_cons_succ, List.set_cons_zero])) | (guard_target =~ wpTree _ _ _ (Tr.both _ _) _ _ _; refine tree_both ?_ ?_) | (guard_target =~ wpTree _ _ _ (Tr.e _ _) _ _ _; first | (refine tree_one rfl rfl (fun K hK => ?_); simp only [List.getElem_toArray, List.getElem_cons_succ, List.getElem_cons_zero]; first | ((first | fail); simp only [Act.put, List.setIfInBounds_toArray, List.set_cons_succ, List.set_cons_zero, cells_iV, iL_length, setL_i, setL_ii, agg_iL]) | go_big_op) | (refine tree_one_skip ⟨_, H, by repeat first | exact .here | apply Suf.there⟩ rfl rfl ?_; simp only [List.getElem_toArray, List.getElem_cons_succ, List.getElem_cons_zero, Act.put, List.setIfInBounds_toArray, List.set_cons_succ, List.set_cons_zero])) | (guard_target =~ wpTree _ _ _ Tr.nil _ _ _; refine tree_nil ?_)))
    have r4 := H.loadVarN (P := Try.prog) (ty := 24) (b := c4) (by exact m1) (by simp) (by simp [iL_length])
    exact bodyPost_ret (v := .tuple #[Value.agg #[.int .u64 0, .int .u64 0, .int .u64 0, .int .u64 0], .int .i64 3]) (by simp [results, Try.results45, asAddr, r4, agg_iL]) rfl ⟨rfl, H.below⟩
set_option maxRecDepth 100000 in
set_option maxHeartbeats 4000000 in
theorem Shl_neg (x n : Int) (hn : n < 0) (w : World) :
    Calls Try.prog 45 #[iV x, .int .i64 n] w fun e w' => e = .returned (.tuple #[Value.agg #[.int .u64 0, .int .u64 0, .int .u64 0, .int .u64 0], .int .i64 1]) ∧ Below w.heap.size w w' := by
  have H := Own.start w
  have g1 := guard_iV
  go_enter Try.func45, Try.ntmps45
  have tk0 : True := trivial
  have tk1 : True := trivial
  go_wp2_with (guard_target =~ wpList _ _ _ (_ :: _) _ _; (first | (guard_target =~ wpList _ _ _ (Oper.mk _ (.store _ _ _) _ _ _ _ :: _) _ _; refine BigFrame.wpList_want rfl (fun K hK => ?_); refine o_store (l' := ?_) (row := ?_) rfl rfl H rfl ?_ ?_ ?_ ?_ (fun w3 H2 => hK _ _ ?_); rotate_left 2; (exact r0); (focus (intro _; (simp [Act.eval, Value.cells, List.getD, cells_iV, iL_length, setL_i, setL_ii, agg_iL]; done))); (focus (simp [Act.eval, Value.cells, List.getD, cells_iV, iL_length, setL_i, setL_ii, agg_iL]; done)); (exact rfl); clear hK K; clear H; (try clear w2); revert w3; intro w2 H; (try simp [Act.eval, List.getD, cells_iV, iL_length, setL_i, setL_ii, agg_iL] at H); (try simp [Value.cells, setL, cells_iV, iL_length, setL_i, setL_ii, agg_iL] at H)) | ((first | (guard_target =~ wpList _ _ _ (Oper.mk _ (.alloc _) _ _ _ _ :: _) _ _; refine BigFrame.wpList_want rfl (fun K hK => ?_); refine o_alloc (z := ?_) rfl ?_ H rfl (fun w3 b2 he H2 => hK _ _ ?_); rotate_left 1; (focus (intro _; simp; with_reducible exact rfl))) | (guard_target =~ wpList _ _ _ (Oper.mk _ (.box _ _) _ _ _ _ :: _) _ _; refine BigFrame.wpList_want rfl (fun K hK => ?_); refine o_box rfl H rfl (fun w3 b2 he H2 => hK _ _ ?_))); clear hK K he; clear H; (try clear w2); revert w3; intro w2 H; (try simp [Act.eval, List.getD, cells_iV, iL_length, setL_i, setL_ii, agg_iL] at H); (try simp [Value.cells, setL, cells_iV, iL_length, setL_i, setL_ii, agg_iL] at H); (first | (clear tk0; rename Nat => c2) | (clear tk1; rename Nat => c4)))); simp only [Act.put, List.setIfInBounds_toArray, List.set_cons_succ, List.set_cons_zero, cells_iV, iL_length, setL_i, setL_ii, agg_iL])
  have r4 := H.loadVarN (P := Try.prog) (ty := 24) (b := c4) (by exact m0) (by simp) (by simp [iL_length])
  exact bodyPost_ret (v := .tuple #[Value.agg #[.int .u64 0, .int .u64 0, .int .u64 0, .int .u64 0], .int .i64 1]) (by simp [results, Try.results45, asAddr, r4, agg_iL]) rfl ⟨rfl, H.below⟩
set_option maxRecDepth 100000 in
set_option maxHeartbeats 4000000 in
theorem Shl_zero (x n : Int) (hx : R256 x) (hx0 : x = 0) (hn : 0 ≤ n) (w : World) :
    Calls Try.prog 45 #[iV x, .int .i64 n] w fun e w' => e = .returned (.tuple #[iV x, .int .i64 0]) ∧ Below w.heap.size w w' := by
  have H := Own.start w
  have g1 := guard_iV
  have hq := eq_iV x 0 hx (by unfold R256; omega)
  rw [iV_zero, show decide (x = 0) = true by simpa using hx0] at hq
  clear hx0
  go_enter Try.func45, Try.ntmps45
  have tk0 : True := trivial
  have tk1 : True := trivial
  go_wp2_with (guard_target =~ wpList _ _ _ (_ :: _) _ _; (first | (guard_target =~ wpList _ _ _ (Oper.mk _ (.load _ _) _ _ _ _ :: _) _ _; refine BigFrame.wpList_want rfl (fun K hK => ?_); (refine o_loadNC (row := ?_) rfl rfl H ?_ ?_ ?_ (hK _ _ ?_); rotate_left 1; (repeat first | exact .head _ | apply List.Mem.tail); (focus (intro _; simp [cells_iV, iL_length, setL_i, setL_ii, agg_iL]; done)); (focus (intro _; simp [cells_iV, iL_length, setL_i, setL_ii, agg_iL]; done))); clear hK K) | (guard_target =~ wpList _ _ _ (Oper.mk _ (.store _ _ _) _ _ _ _ :: _) _ _; refine BigFrame.wpList_want rfl (fun K hK => ?_); refine o_store (l' := ?_) (row := ?_) rfl rfl H rfl ?_ ?_ ?_ ?_ (fun w3 H2 => hK _ _ ?_); rotate_left 2; (exact r0); (focus (intro _; (simp [Act.eval, List.getD, cells_iV, iL_length, setL_i, setL_ii, agg_iL]; done))); (focus (simp [Act.eval, List.getD, cells_iV, iL_length, setL_i, setL_ii, agg_iL]; done)); (exact rfl); clear hK K; clear H; (try clear w2); revert w3; intro w2 H; (try simp [Act.eval, List.getD, cells_iV, iL_length, setL_i, setL_ii, agg_iL] at H); (try simp [Value.cells, setL, cells_iV, iL_length, setL_i, setL_ii, agg_iL] at H)) | ((first | (guard_target =~ wpList _ _ _ (Oper.mk _ (.alloc _) _ _ _ _ :: _) _ _; refine BigFrame.wpList_want rfl (fun K hK => ?_); refine o_alloc (z := ?_) rfl ?_ H rfl (fun w3 b2 he H2 => hK _ _ ?_); rotate_left 1; (focus (intro _; simp; with_reducible exact rfl))) | (guard_target =~ wpList _ _ _ (Oper.mk _ (.box _ _) _ _ _ _ :: _) _ _; refine BigFrame.wpList_want rfl (fun K hK => ?_); refine o_box rfl H rfl (fun w3 b2 he H2 => hK _ _ ?_))); clear hK K he; clear H; (try clear w2); revert w3; intro w2 H; (try simp [Act.eval, List.getD, cells_iV, iL_length, setL_i, setL_ii, agg_iL] at H); (try simp [Value.cells, setL, cells_iV, iL_length, setL_i, setL_ii, agg_iL] at H); (first | (clear tk0; rename Nat => c2) | (clear tk1; rename Nat => c4)))); simp only [Act.put, List.setIfInBounds_toArray, List.set_cons_succ, List.set_cons_zero, cells_iV, iL_length, setL_i, setL_ii, agg_iL])
  have r4 := H.loadVarN (P := Try.prog) (ty := 24) (b := c4) (by exact m0) (by simp) (by simp [iL_length])
  exact bodyPost_ret (v := .tuple #[iV x, .int .i64 0]) (by simp [results, Try.results45, asAddr, r4, agg_iL]) rfl ⟨rfl, H.below⟩
set_option maxRecDepth 100000 in
set_option maxHeartbeats 4000000 in
theorem Shl_far (x n : Int) (hx : R256 x) (hx0 : x ≠ 0) (hn : 255 < n) (w : World) :
    Calls Try.prog 45 #[iV x, .int .i64 n] w fun e w' => e = .returned (.tuple #[Value.agg #[.int .u64 0, .int .u64 0, .int .u64 0, .int .u64 0], .int .i64 3]) ∧ Below w.heap.size w w' := by
  have H := Own.start w
  have g1 := guard_iV
  have hq := eq_iV x 0 hx (by unfold R256; omega)
  rw [iV_zero, show decide (x = 0) = false by simpa using hx0] at hq
  go_enter Try.func45, Try.ntmps45
  have tk0 : True := trivial
  have tk1 : True := trivial
  go_wp2_with (guard_target =~ wpList _ _ _ (_ :: _) _ _; (first | (guard_target =~ wpList _ _ _ (Oper.mk _ (.load _ _) _ _ _ _ :: _) _ _; refine BigFrame.wpList_want rfl (fun K hK => ?_); (refine o_loadNC (row := ?_) rfl rfl H ?_ ?_ ?_ (hK _ _ ?_); rotate_left 1; (repeat first | exact .head _ | apply List.Mem.tail); (focus (intro _; simp [cells_iV, iL_length, setL_i, setL_ii, agg_iL]; done)); (focus (intro _; simp [cells_iV, iL_length, setL_i, setL_ii, agg_iL]; done))); clear hK K) | (guard_target =~ wpList _ _ _ (Oper.mk _ (.store _ _ _) _ _ _ _ :: _) _ _; refine BigFrame.wpList_want rfl (fun K hK => ?_); refine o_store (l' := ?_) (row := ?_) rfl rfl H rfl ?_ ?_ ?_ ?_ (fun w3 H2 => hK _ _ ?_); rotate_left 2; (exact r0); (focus (intro _; (simp [Act.eval, Value.cells, List.getD, cells_iV, iL_length, setL_i, setL_ii, agg_iL]; done))); (focus (simp [Act.eval, Value.cells, List.getD, cells_iV, iL_length, setL_i, setL_ii, agg_iL]; done)); (exact rfl); clear hK K; clear H; (try clear w2); revert w3; intro w2 H; (try simp [Act.eval, List.getD, cells_iV, iL_length, setL_i, setL_ii, agg_iL] at H); (try simp [Value.cells, setL, cells_iV, iL_length, setL_i, setL_ii, agg_iL] at H)) | ((first | (guard_target =~ wpList _ _ _ (Oper.mk _ (.alloc _) _ _ _ _ :: _) _ _; refine BigFrame.wpList_want rfl (fun K hK => ?_); refine o_alloc (z := ?_) rfl ?_ H rfl (fun w3 b2 he H2 => hK _ _ ?_); rotate_left 1; (focus (intro _; simp; with_reducible exact rfl))) | (guard_target =~ wpList _ _ _ (Oper.mk _ (.box _ _) _ _ _ _ :: _) _ _; refine BigFrame.wpList_want rfl (fun K hK => ?_); refine o_box rfl H rfl (fun w3 b2 he H2 => hK _ _ ?_))); clear hK K he; clear H; (try clear w2); revert w3; intro w2 H; (try simp [Act.eval, List.getD, cells_iV, iL_length, setL_i, setL_ii, agg_iL] at H); (try simp [Value.cells, setL, cells_iV, iL_length, setL_i, setL_ii, agg_iL] at H); (first | (clear tk0; rename Nat => c2) | (clear tk1; rename Nat => c4)))); simp only [Act.put, List.setIfInBounds_toArray, List.set_cons_succ, List.set_cons_zero, cells_iV, iL_length, setL_i, setL_ii, agg_iL])
  have r4 := H.loadVarN (P := Try.prog) (ty := 24) (b := c4) (by exact m0) (by simp) (by simp [iL_length])
  exact bodyPost_ret (v := .tuple #[Value.agg #[.int .u64 0, .int .u64 0, .int .u64 0, .int .u64 0], .int .i64 3]) (by simp [results, Try.results45, asAddr, r4, agg_iL]) rfl ⟨rfl, H.below⟩
theorem Shl_any (x : Int) (hx : R256 x) (n : Int) (w : World) :
    Calls Try.prog 45 #[iV x, .int .i64 n] w fun e w' => e = .returned (.tuple #[iV (shlZ x n), .int .i64 (shlE x n)]) ∧ Below w.heap.size w w' := by
  unfold shlZ shlE
  by_cases h0 : n < 0
  · rw [if_pos h0, if_neg (by decide), iV_zero]; exact Shl_neg x n h0 w
  · rw [if_neg h0]
    by_cases hx0 : x = 0
    · rw [if_pos hx0, if_pos rfl]
      have e : x * 2 ^ n.toNat = x := by rw [hx0, Int.zero_mul]
      rw [e]
      exact Shl_zero x n hx hx0 (by omega) w
    · rw [if_neg hx0]
      by_cases h1 : 255 < n
      · rw [if_pos h1, if_neg (by decide), iV_zero]; exact Shl_far x n hx hx0 h1 w
      · rw [if_neg h1]
        have h := Shl_in x hx hx0 n.toNat (by omega) w
        rw [show ((n.toNat : Nat) : Int) = n by omega] at h
        have e : (if errZ (x * 2 ^ n.toNat) = 0 then x * 2 ^ n.toNat else 0) = fitZ (x * 2 ^ n.toNat) := by
          unfold errZ fitZ
          split <;> simp
        rw [e]
        exact h
end Go.Proofs.Ytdgpdafkngoegaa
