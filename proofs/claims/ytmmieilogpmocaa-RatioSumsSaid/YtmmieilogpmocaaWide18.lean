/-
  The walks of layer 3 (wide): Above.
-/
import Derived.Test.YtmmieilogpmocaaWide17
import Derived.Test.YtmmieilogpmocaaWide4
namespace Go.Proofs.Ytmmieilogpmocaa
set_option linter.unusedVariables false
set_option linter.unusedSimpArgs false
open Go.RowKit

theorem signZ_mul (x y : Int) : signZ x * signZ y = signZ (x * y) := by
  unfold signZ
  rcases Int.lt_trichotomy x 0 with hx | hx | hx
  · rcases Int.lt_trichotomy y 0 with hy | hy | hy
    · have := Int.mul_pos_of_neg_of_neg hx hy
      rw [if_pos hx, if_pos hy, if_neg (by omega), if_neg (by omega)]; rfl
    · subst hy; simp
    · have := Int.mul_neg_of_neg_of_pos hx hy
      rw [if_pos hx, if_neg (by omega), if_neg (by omega), if_pos this]; rfl
  · subst hx; simp
  · rcases Int.lt_trichotomy y 0 with hy | hy | hy
    · have := Int.mul_neg_of_pos_of_neg hx hy
      rw [if_neg (by omega), if_neg (by omega), if_pos hy, if_pos this]; rfl
    · subst hy; simp
    · have := Int.mul_pos hx hy
      rw [if_neg (by omega), if_neg (by omega), if_neg (by omega), if_neg (by omega), if_neg (by omega), if_neg (by omega)]; rfl
theorem sign_lt {X Y : Int} (h : signZ X < signZ Y) : X < Y := by
  unfold signZ at h
  by_cases h1 : X < 0 <;> by_cases h2 : X = 0 <;> by_cases h3 : Y < 0 <;> by_cases h4 : Y = 0 <;> simp [h1, h2, h3, h4] at h <;> omega
theorem signZ_abs (x : Int) : x = signZ x * absZ x := by
  unfold signZ absZ
  by_cases h : x < 0
  · simp [h]
  · by_cases h0 : x = 0
    · subst h0; rfl
    · simp [h, h0]
theorem absZ_mul (x y : Int) : absZ (x * y) = absZ x * absZ y := by
  rw [absZ_nat, absZ_nat, absZ_nat, Int.natAbs_mul, Int.natCast_mul]
theorem above_plain (X Y : Int) (h : signZ X = signZ Y) : signZ X * cmpZ (absZ X) (absZ Y) = cmpZ X Y := by
  unfold signZ absZ cmpZ at *
  by_cases hx : X < 0 <;> by_cases hy : Y < 0 <;> simp only [hx, hy, if_true, if_false] at h ⊢
  · by_cases h1 : X < Y
    · rw [if_neg (by omega), if_pos (by omega), if_pos h1]; rfl
    · by_cases h2 : Y < X
      · rw [if_pos (by omega), if_neg h1, if_pos h2]; rfl
      · rw [if_neg (by omega), if_neg (by omega), if_neg h1, if_neg h2]; rfl
  · split at h <;> omega
  · split at h <;> omega
  · by_cases h0 : X = 0
    · rw [if_pos h0] at h ⊢
      have : Y = 0 := by
        by_cases hY : Y = 0
        · exact hY
        · rw [if_neg hY] at h; omega
      subst h0 this; rfl
    · rw [if_neg h0]
      exact Int.one_mul _
set_option maxRecDepth 100000 in
set_option maxHeartbeats 8000000 in
theorem Above_any (x y z t : Int) (hx : R256 x) (hy : R256 y) (hz : R256 z) (ht : R256 t) (w : World) :
    Calls Try.prog 68 #[iV x, iV y, iV z, iV t] w fun e w' => e = .returned (.int .i64 (cmpZ (x * y) (z * t))) ∧ Below w.heap.size w w' := by
  have H := Own.start w
  have hp1 := fun w => product_any (absZ x) (absZ y) (absZ_M hx) (absZ_M hy) (by have := absZ_lt hx; omega) (by have := absZ_lt hy; omega) w
  have hp2 := fun w => product_any (absZ z) (absZ t) (absZ_M hz) (absZ_M ht) (by have := absZ_lt hz; omega) (by have := absZ_lt ht; omega) w
  have hsx := fun w => sign_any x hx w
  have hsy := fun w => sign_any y hy w
  have hsz := fun w => sign_any z hz w
  have hst := fun w => sign_any t ht w
  have hpx := fun w => plain_any x hx w
  have hpy := fun w => plain_any y hy w
  have hpz := fun w => plain_any z hz w
  have hpt := fun w => plain_any t ht w
  have hcm := fun w => cmp_any (absZ x * absZ y) (absZ z * absZ t) (mul_abs x y hx hy) (mul_abs z t hz ht) w
  have hab := above_plain (x * y) (z * t)
  have e1 := signZ_mul x y
  have e2 := signZ_mul z t
  have b1 : -1 ≤ signZ (x * y) ∧ signZ (x * y) ≤ 1 := by unfold signZ; split <;> (try split) <;> omega
  have b2 : -1 ≤ signZ (z * t) ∧ signZ (z * t) ≤ 1 := by unfold signZ; split <;> (try split) <;> omega
  have b3 : -1 ≤ cmpZ (x * y) (z * t) ∧ cmpZ (x * y) (z * t) ≤ 1 := by unfold cmpZ; split <;> (try split) <;> omega
  have h1 : signZ (x * y) < signZ (z * t) → cmpZ (x * y) (z * t) = -1 := fun h => cmpZ_lt (sign_lt h)
  have h2 : signZ (z * t) < signZ (x * y) → cmpZ (x * y) (z * t) = 1 := fun h => cmpZ_gt (sign_lt h)
  rw [absZ_mul, absZ_mul] at hab
  obtain ⟨sx, hsx0⟩ : ∃ s, signZ x = s := ⟨_, rfl⟩
  obtain ⟨sy, hsy0⟩ : ∃ s, signZ y = s := ⟨_, rfl⟩
  obtain ⟨sz, hsz0⟩ : ∃ s, signZ z = s := ⟨_, rfl⟩
  obtain ⟨st, hst0⟩ : ∃ s, signZ t = s := ⟨_, rfl⟩
  obtain ⟨p, hp0⟩ : ∃ p, signZ (x * y) = p := ⟨_, rfl⟩
  obtain ⟨q, hq0⟩ : ∃ q, signZ (z * t) = q := ⟨_, rfl⟩
  obtain ⟨r, hr0⟩ : ∃ r, cmpZ (x * y) (z * t) = r := ⟨_, rfl⟩
  obtain ⟨c, hc0⟩ : ∃ c, cmpZ (absZ x * absZ y) (absZ z * absZ t) = c := ⟨_, rfl⟩
  have bc : -1 ≤ c ∧ c ≤ 1 := by rw [← hc0]; unfold cmpZ; split <;> (try split) <;> omega
  rw [hsx0, hsy0, hp0] at e1
  rw [hsz0, hst0, hq0] at e2
  rw [hsx0] at hsx
  rw [hsy0] at hsy
  rw [hsz0] at hsz
  rw [hst0] at hst
  rw [hp0, hq0, hc0, hr0] at hab
  rw [hp0, hq0, hr0] at h1 h2
  rw [hp0] at b1
  rw [hq0] at b2
  rw [hr0] at b3 ⊢
  rw [hc0] at hcm
  clear hsx0 hsy0 hsz0 hst0 hp0 hq0 hr0 hc0 hx hy hz ht
  by_cases hlt : p < q
  · have hr := h1 hlt
    rw [hr]
    clear h1 h2 hab hr
    go_enter Try.func68, Try.ntmps68
    have tk0 : True := trivial
    have tk1 : True := trivial
    have tk2 : True := trivial
    have tk3 : True := trivial
    go_wp2_with (first
      | (guard_target =~ Code.wp _ (Code.region 1 _ true) _ _ _; refine region_tree0 1 (G := True) (.q 0 (.q 2 (.q 5 (.q 7 (.e 1 (.e 3 (.q 4 (.e 6 (.e 8 (.q 9 (.q 10 (.q 11 .nil)))))))))))) (by kernel_rfl) (by intro c a d v w h; cases d <;> exact h) (by kernel_rfl) H ⟨trivial⟩ (fun _ w3 H2 => ?_); (clear H; (try clear w2); revert w3; intro w2 H))
      | (go_at_call 54; (with_reducible refine (hsx _).mono ?_); rintro e w3 ⟨rfl, hb⟩; replace H := H.ext hb; clear hb; dsimp only; (refine hK _ _ ⟨_, H, by repeat first | exact .here | apply Suf.there⟩ ?_; clear hK K; (try simp only [Act.put, List.setIfInBounds_toArray, List.set_cons_succ, List.set_cons_zero, cells_iV, cells_mV, iL_length, mL_length, agg_iL, agg_mL])))
      | (go_at_call 54; (with_reducible refine (hsy _).mono ?_); rintro e w3 ⟨rfl, hb⟩; replace H := H.ext hb; clear hb; dsimp only; (refine hK _ _ ⟨_, H, by repeat first | exact .here | apply Suf.there⟩ ?_; clear hK K; (try simp only [Act.put, List.setIfInBounds_toArray, List.set_cons_succ, List.set_cons_zero, cells_iV, cells_mV, iL_length, mL_length, agg_iL, agg_mL])))
      | (go_at_call 54; (with_reducible refine (hsz _).mono ?_); rintro e w3 ⟨rfl, hb⟩; replace H := H.ext hb; clear hb; dsimp only; (refine hK _ _ ⟨_, H, by repeat first | exact .here | apply Suf.there⟩ ?_; clear hK K; (try simp only [Act.put, List.setIfInBounds_toArray, List.set_cons_succ, List.set_cons_zero, cells_iV, cells_mV, iL_length, mL_length, agg_iL, agg_mL])))
      | (go_at_call 54; (with_reducible refine (hst _).mono ?_); rintro e w3 ⟨rfl, hb⟩; replace H := H.ext hb; clear hb; dsimp only; (refine hK _ _ ⟨_, H, by repeat first | exact .here | apply Suf.there⟩ ?_; clear hK K; (try simp only [Act.put, List.setIfInBounds_toArray, List.set_cons_succ, List.set_cons_zero, cells_iV, cells_mV, iL_length, mL_length, agg_iL, agg_mL])))
      | (guard_target =~ wpList _ _ _ (_ :: _) _ _; ((guard_target =~ wpList _ _ _ (Oper.mk _ (.box _ _) _ _ _ _ :: _) _ _; refine BigFrame.wpList_want rfl (fun K hK => ?_); refine o_box rfl H rfl (fun w3 b2 he H2 => hK _ _ ?_)); clear hK K he; clear H; (try clear w2); revert w3; intro w2 H; (try simp [Act.eval, List.getD, cells_iV, cells_mV, iL_length, mL_length, agg_iL, agg_mL] at H); (try simp [Value.cells, setL, cells_iV, cells_mV, iL_length, mL_length, agg_iL, agg_mL] at H); (first | (clear tk0; rename Nat => c4) | (clear tk1; rename Nat => c5) | (clear tk2; rename Nat => c6) | (clear tk3; rename Nat => c7))); simp only [Act.put, List.setIfInBounds_toArray, List.set_cons_succ, List.set_cons_zero, cells_iV, cells_mV, iL_length, mL_length, agg_iL, agg_mL])
      | (guard_target =~ wpTree _ _ _ _ _ _ _; first | (guard_target =~ wpTree _ _ _ (Tr.q _ _) _ _ _; first | (refine tree_quiet ⟨_, H, by repeat first | exact .here | apply Suf.there⟩ rfl rfl rfl (fun K hK => ?_); simp only [List.getElem_toArray, List.getElem_cons_succ, List.getElem_cons_zero]; first | (guard_target =~ Oper.quiet _ (Oper.mk _ (.load _ _) _ _ _ _) _ _ _; (refine q_loadNC (row := ?_) rfl rfl ?_ ?_ ?_ (hK _ ?_); rotate_left 1; (repeat first | exact .head _ | apply List.Mem.tail); (focus (intro _; simp [cells_iV, cells_mV, iL_length, mL_length, agg_iL, agg_mL]; done)); (focus (intro _; simp [cells_iV, cells_mV, iL_length, mL_length, agg_iL, agg_mL]; done))); clear hK K; simp only [Act.put, List.setIfInBounds_toArray, List.set_cons_succ, List.set_cons_zero, cells_iV, cells_mV, iL_length, mL_length, agg_iL, agg_mL]) | (go_big_quiet_op; (try refine ⟨_, fun _ _ => rfl, ?_⟩); refine hK _ ?_; clear hK K)) | (refine tree_skip ⟨_, H, by repeat first | exact .here | apply Suf.there⟩ rfl rfl ?_; simp only [List.getElem_toArray, List.getElem_cons_succ, List.getElem_cons_zero, Act.put, List.setIfInBounds_toArray, List.set_cons_succ, List.set_cons_zero])) | (guard_target =~ wpTree _ _ _ (Tr.both _ _) _ _ _; refine tree_both ?_ ?_) | (guard_target =~ wpTree _ _ _ (Tr.e _ _) _ _ _; first | (refine tree_one rfl rfl (fun K hK => ?_); simp only [List.getElem_toArray, List.getElem_cons_succ, List.getElem_cons_zero]; first | ((first | fail); simp only [Act.put, List.setIfInBounds_toArray, List.set_cons_succ, List.set_cons_zero, cells_iV, cells_mV, iL_length, mL_length, agg_iL, agg_mL]) | go_big_op) | (refine tree_one_skip ⟨_, H, by repeat first | exact .here | apply Suf.there⟩ rfl rfl ?_; simp only [List.getElem_toArray, List.getElem_cons_succ, List.getElem_cons_zero, Act.put, List.setIfInBounds_toArray, List.set_cons_succ, List.set_cons_zero])) | (guard_target =~ wpTree _ _ _ Tr.nil _ _ _; refine tree_nil ?_)))
    go_ret
    exact ⟨rfl, H.below⟩
  · by_cases hgt : q < p
    · have hr := h2 hgt
      rw [hr]
      clear h1 h2 hab hr
      go_enter Try.func68, Try.ntmps68
      have tk0 : True := trivial
      have tk1 : True := trivial
      have tk2 : True := trivial
      have tk3 : True := trivial
      go_wp2_with (first
        | (guard_target =~ Code.wp _ (Code.region 1 _ true) _ _ _; refine region_tree0 1 (G := True) (.q 0 (.q 2 (.q 5 (.q 7 (.e 1 (.e 3 (.q 4 (.e 6 (.e 8 (.q 9 (.q 10 (.q 11 .nil)))))))))))) (by kernel_rfl) (by intro c a d v w h; cases d <;> exact h) (by kernel_rfl) H ⟨trivial⟩ (fun _ w3 H2 => ?_); (clear H; (try clear w2); revert w3; intro w2 H))
        | (go_at_call 54; (with_reducible refine (hsx _).mono ?_); rintro e w3 ⟨rfl, hb⟩; replace H := H.ext hb; clear hb; dsimp only; (refine hK _ _ ⟨_, H, by repeat first | exact .here | apply Suf.there⟩ ?_; clear hK K; (try simp only [Act.put, List.setIfInBounds_toArray, List.set_cons_succ, List.set_cons_zero, cells_iV, cells_mV, iL_length, mL_length, agg_iL, agg_mL])))
        | (go_at_call 54; (with_reducible refine (hsy _).mono ?_); rintro e w3 ⟨rfl, hb⟩; replace H := H.ext hb; clear hb; dsimp only; (refine hK _ _ ⟨_, H, by repeat first | exact .here | apply Suf.there⟩ ?_; clear hK K; (try simp only [Act.put, List.setIfInBounds_toArray, List.set_cons_succ, List.set_cons_zero, cells_iV, cells_mV, iL_length, mL_length, agg_iL, agg_mL])))
        | (go_at_call 54; (with_reducible refine (hsz _).mono ?_); rintro e w3 ⟨rfl, hb⟩; replace H := H.ext hb; clear hb; dsimp only; (refine hK _ _ ⟨_, H, by repeat first | exact .here | apply Suf.there⟩ ?_; clear hK K; (try simp only [Act.put, List.setIfInBounds_toArray, List.set_cons_succ, List.set_cons_zero, cells_iV, cells_mV, iL_length, mL_length, agg_iL, agg_mL])))
        | (go_at_call 54; (with_reducible refine (hst _).mono ?_); rintro e w3 ⟨rfl, hb⟩; replace H := H.ext hb; clear hb; dsimp only; (refine hK _ _ ⟨_, H, by repeat first | exact .here | apply Suf.there⟩ ?_; clear hK K; (try simp only [Act.put, List.setIfInBounds_toArray, List.set_cons_succ, List.set_cons_zero, cells_iV, cells_mV, iL_length, mL_length, agg_iL, agg_mL])))
        | (guard_target =~ wpList _ _ _ (_ :: _) _ _; ((guard_target =~ wpList _ _ _ (Oper.mk _ (.box _ _) _ _ _ _ :: _) _ _; refine BigFrame.wpList_want rfl (fun K hK => ?_); refine o_box rfl H rfl (fun w3 b2 he H2 => hK _ _ ?_)); clear hK K he; clear H; (try clear w2); revert w3; intro w2 H; (try simp [Act.eval, List.getD, cells_iV, cells_mV, iL_length, mL_length, agg_iL, agg_mL] at H); (try simp [Value.cells, setL, cells_iV, cells_mV, iL_length, mL_length, agg_iL, agg_mL] at H); (first | (clear tk0; rename Nat => c4) | (clear tk1; rename Nat => c5) | (clear tk2; rename Nat => c6) | (clear tk3; rename Nat => c7))); simp only [Act.put, List.setIfInBounds_toArray, List.set_cons_succ, List.set_cons_zero, cells_iV, cells_mV, iL_length, mL_length, agg_iL, agg_mL])
        | (guard_target =~ wpTree _ _ _ _ _ _ _; first | (guard_target =~ wpTree _ _ _ (Tr.q _ _) _ _ _; first | (refine tree_quiet ⟨_, H, by repeat first | exact .here | apply Suf.there⟩ rfl rfl rfl (fun K hK => ?_); simp only [List.getElem_toArray, List.getElem_cons_succ, List.getElem_cons_zero]; first | (guard_target =~ Oper.quiet _ (Oper.mk _ (.load _ _) _ _ _ _) _ _ _; (refine q_loadNC (row := ?_) rfl rfl ?_ ?_ ?_ (hK _ ?_); rotate_left 1; (repeat first | exact .head _ | apply List.Mem.tail); (focus (intro _; simp [cells_iV, cells_mV, iL_length, mL_length, agg_iL, agg_mL]; done)); (focus (intro _; simp [cells_iV, cells_mV, iL_length, mL_length, agg_iL, agg_mL]; done))); clear hK K; simp only [Act.put, List.setIfInBounds_toArray, List.set_cons_succ, List.set_cons_zero, cells_iV, cells_mV, iL_length, mL_length, agg_iL, agg_mL]) | (go_big_quiet_op; (try refine ⟨_, fun _ _ => rfl, ?_⟩); refine hK _ ?_; clear hK K)) | (refine tree_skip ⟨_, H, by repeat first | exact .here | apply Suf.there⟩ rfl rfl ?_; simp only [List.getElem_toArray, List.getElem_cons_succ, List.getElem_cons_zero, Act.put, List.setIfInBounds_toArray, List.set_cons_succ, List.set_cons_zero])) | (guard_target =~ wpTree _ _ _ (Tr.both _ _) _ _ _; refine tree_both ?_ ?_) | (guard_target =~ wpTree _ _ _ (Tr.e _ _) _ _ _; first | (refine tree_one rfl rfl (fun K hK => ?_); simp only [List.getElem_toArray, List.getElem_cons_succ, List.getElem_cons_zero]; first | ((first | fail); simp only [Act.put, List.setIfInBounds_toArray, List.set_cons_succ, List.set_cons_zero, cells_iV, cells_mV, iL_length, mL_length, agg_iL, agg_mL]) | go_big_op) | (refine tree_one_skip ⟨_, H, by repeat first | exact .here | apply Suf.there⟩ rfl rfl ?_; simp only [List.getElem_toArray, List.getElem_cons_succ, List.getElem_cons_zero, Act.put, List.setIfInBounds_toArray, List.set_cons_succ, List.set_cons_zero])) | (guard_target =~ wpTree _ _ _ Tr.nil _ _ _; refine tree_nil ?_)))
      go_ret
      exact ⟨rfl, H.below⟩
    · have hr := hab (by omega)
      rw [← hr]
      have HR := Lib.hid hr
      have bpc : -1 ≤ p * c ∧ p * c ≤ 1 := by rw [hr]; exact b3
      clear h1 h2 hab hr
      go_enter Try.func68, Try.ntmps68
      have tk0 : True := trivial
      have tk1 : True := trivial
      have tk2 : True := trivial
      have tk3 : True := trivial
      go_wp2_with (first
        | (guard_target =~ Code.wp _ (Code.region 1 _ true) _ _ _; refine region_tree0 1 (G := True) (.q 0 (.q 2 (.q 5 (.q 7 (.e 1 (.e 3 (.q 4 (.e 6 (.e 8 (.q 9 (.q 10 (.q 11 .nil)))))))))))) (by kernel_rfl) (by intro c a d v w h; cases d <;> exact h) (by kernel_rfl) H ⟨trivial⟩ (fun _ w3 H2 => ?_); (clear H; (try clear w2); revert w3; intro w2 H))
        | (guard_target =~ Code.wp _ (Code.region 6 _ true) _ _ _; refine region_tree0 6 (G := True) (.q 0 (.q 1 (.q 3 (.q 6 (.q 8 (.e 2 (.e 4 (.e 5 (.e 7 (.e 9 (.e 10 (.e 11 (.q 12 (.q 13 .nil)))))))))))))) (by kernel_rfl) (by intro c a d v w h; cases d <;> exact h) (by kernel_rfl) H ⟨trivial⟩ (fun _ w3 H2 => ?_); (clear H; (try clear w2); revert w3; intro w2 H))
        | (go_at_call 54; (with_reducible refine (hsx _).mono ?_); rintro e w3 ⟨rfl, hb⟩; replace H := H.ext hb; clear hb; dsimp only; (refine hK _ _ ⟨_, H, by repeat first | exact .here | apply Suf.there⟩ ?_; clear hK K; (try simp only [Act.put, List.setIfInBounds_toArray, List.set_cons_succ, List.set_cons_zero, cells_iV, cells_mV, iL_length, mL_length, agg_iL, agg_mL])))
        | (go_at_call 54; (with_reducible refine (hsy _).mono ?_); rintro e w3 ⟨rfl, hb⟩; replace H := H.ext hb; clear hb; dsimp only; (refine hK _ _ ⟨_, H, by repeat first | exact .here | apply Suf.there⟩ ?_; clear hK K; (try simp only [Act.put, List.setIfInBounds_toArray, List.set_cons_succ, List.set_cons_zero, cells_iV, cells_mV, iL_length, mL_length, agg_iL, agg_mL])))
        | (go_at_call 54; (with_reducible refine (hsz _).mono ?_); rintro e w3 ⟨rfl, hb⟩; replace H := H.ext hb; clear hb; dsimp only; (refine hK _ _ ⟨_, H, by repeat first | exact .here | apply Suf.there⟩ ?_; clear hK K; (try simp only [Act.put, List.setIfInBounds_toArray, List.set_cons_succ, List.set_cons_zero, cells_iV, cells_mV, iL_length, mL_length, agg_iL, agg_mL])))
        | (go_at_call 54; (with_reducible refine (hst _).mono ?_); rintro e w3 ⟨rfl, hb⟩; replace H := H.ext hb; clear hb; dsimp only; (refine hK _ _ ⟨_, H, by repeat first | exact .here | apply Suf.there⟩ ?_; clear hK K; (try simp only [Act.put, List.setIfInBounds_toArray, List.set_cons_succ, List.set_cons_zero, cells_iV, cells_mV, iL_length, mL_length, agg_iL, agg_mL])))
        | (go_at_call 84; (with_reducible refine (hpx _).mono ?_); rintro e w3 ⟨rfl, hb⟩; replace H := H.ext hb; clear hb; dsimp only; (refine hK _ _ ⟨_, H, by repeat first | exact .here | apply Suf.there⟩ ?_; clear hK K; (try simp only [Act.put, List.setIfInBounds_toArray, List.set_cons_succ, List.set_cons_zero, cells_iV, cells_mV, iL_length, mL_length, agg_iL, agg_mL])))
        | (go_at_call 84; (with_reducible refine (hpy _).mono ?_); rintro e w3 ⟨rfl, hb⟩; replace H := H.ext hb; clear hb; dsimp only; (refine hK _ _ ⟨_, H, by repeat first | exact .here | apply Suf.there⟩ ?_; clear hK K; (try simp only [Act.put, List.setIfInBounds_toArray, List.set_cons_succ, List.set_cons_zero, cells_iV, cells_mV, iL_length, mL_length, agg_iL, agg_mL])))
        | (go_at_call 84; (with_reducible refine (hpz _).mono ?_); rintro e w3 ⟨rfl, hb⟩; replace H := H.ext hb; clear hb; dsimp only; (refine hK _ _ ⟨_, H, by repeat first | exact .here | apply Suf.there⟩ ?_; clear hK K; (try simp only [Act.put, List.setIfInBounds_toArray, List.set_cons_succ, List.set_cons_zero, cells_iV, cells_mV, iL_length, mL_length, agg_iL, agg_mL])))
        | (go_at_call 84; (with_reducible refine (hpt _).mono ?_); rintro e w3 ⟨rfl, hb⟩; replace H := H.ext hb; clear hb; dsimp only; (refine hK _ _ ⟨_, H, by repeat first | exact .here | apply Suf.there⟩ ?_; clear hK K; (try simp only [Act.put, List.setIfInBounds_toArray, List.set_cons_succ, List.set_cons_zero, cells_iV, cells_mV, iL_length, mL_length, agg_iL, agg_mL])))
        | (go_at_call 96; (with_reducible refine (hp1 _).mono ?_); rintro e w3 ⟨rfl, hb⟩; replace H := H.ext hb; clear hb; dsimp only; (refine hK _ _ ⟨_, H, by repeat first | exact .here | apply Suf.there⟩ ?_; clear hK K; (try simp only [Act.put, List.setIfInBounds_toArray, List.set_cons_succ, List.set_cons_zero, cells_iV, cells_mV, iL_length, mL_length, agg_iL, agg_mL])))
        | (go_at_call 96; (with_reducible refine (hp2 _).mono ?_); rintro e w3 ⟨rfl, hb⟩; replace H := H.ext hb; clear hb; dsimp only; (refine hK _ _ ⟨_, H, by repeat first | exact .here | apply Suf.there⟩ ?_; clear hK K; (try simp only [Act.put, List.setIfInBounds_toArray, List.set_cons_succ, List.set_cons_zero, cells_iV, cells_mV, iL_length, mL_length, agg_iL, agg_mL])))
        | (go_at_call 95; (with_reducible refine (hcm _).mono ?_); rintro e w3 ⟨rfl, hb⟩; replace H := H.ext hb; clear hb; dsimp only; (refine hK _ _ ⟨_, H, by repeat first | exact .here | apply Suf.there⟩ ?_; clear hK K; (try simp only [Act.put, List.setIfInBounds_toArray, List.set_cons_succ, List.set_cons_zero, cells_iV, cells_mV, iL_length, mL_length, agg_iL, agg_mL])))
        | (guard_target =~ wpList _ _ _ (_ :: _) _ _; ((guard_target =~ wpList _ _ _ (Oper.mk _ (.box _ _) _ _ _ _ :: _) _ _; refine BigFrame.wpList_want rfl (fun K hK => ?_); refine o_box rfl H rfl (fun w3 b2 he H2 => hK _ _ ?_)); clear hK K he; clear H; (try clear w2); revert w3; intro w2 H; (try simp [Act.eval, List.getD, cells_iV, cells_mV, iL_length, mL_length, agg_iL, agg_mL] at H); (try simp [Value.cells, setL, cells_iV, cells_mV, iL_length, mL_length, agg_iL, agg_mL] at H); (first | (clear tk0; rename Nat => c4) | (clear tk1; rename Nat => c5) | (clear tk2; rename Nat => c6) | (clear tk3; rename Nat => c7))); simp only [Act.put, List.setIfInBounds_toArray, List.set_cons_succ, List.set_cons_zero, cells_iV, cells_mV, iL_length, mL_length, agg_iL, agg_mL])
        | (guard_target =~ wpTree _ _ _ _ _ _ _; first | (guard_target =~ wpTree _ _ _ (Tr.q _ _) _ _ _; first | (refine tree_quiet ⟨_, H, by repeat first | exact .here | apply Suf.there⟩ rfl rfl rfl (fun K hK => ?_); simp only [List.getElem_toArray, List.getElem_cons_succ, List.getElem_cons_zero]; first | (guard_target =~ Oper.quiet _ (Oper.mk _ (.load _ _) _ _ _ _) _ _ _; (refine q_loadNC (row := ?_) rfl rfl ?_ ?_ ?_ (hK _ ?_); rotate_left 1; (repeat first | exact .head _ | apply List.Mem.tail); (focus (intro _; simp [cells_iV, cells_mV, iL_length, mL_length, agg_iL, agg_mL]; done)); (focus (intro _; simp [cells_iV, cells_mV, iL_length, mL_length, agg_iL, agg_mL]; done))); clear hK K; simp only [Act.put, List.setIfInBounds_toArray, List.set_cons_succ, List.set_cons_zero, cells_iV, cells_mV, iL_length, mL_length, agg_iL, agg_mL]) | (go_big_quiet_op; (try refine ⟨_, fun _ _ => rfl, ?_⟩); refine hK _ ?_; clear hK K)) | (refine tree_skip ⟨_, H, by repeat first | exact .here | apply Suf.there⟩ rfl rfl ?_; simp only [List.getElem_toArray, List.getElem_cons_succ, List.getElem_cons_zero, Act.put, List.setIfInBounds_toArray, List.set_cons_succ, List.set_cons_zero])) | (guard_target =~ wpTree _ _ _ (Tr.both _ _) _ _ _; refine tree_both ?_ ?_) | (guard_target =~ wpTree _ _ _ (Tr.e _ _) _ _ _; first | (refine tree_one rfl rfl (fun K hK => ?_); simp only [List.getElem_toArray, List.getElem_cons_succ, List.getElem_cons_zero]; first | ((first | fail); simp only [Act.put, List.setIfInBounds_toArray, List.set_cons_succ, List.set_cons_zero, cells_iV, cells_mV, iL_length, mL_length, agg_iL, agg_mL]) | go_big_op) | (refine tree_one_skip ⟨_, H, by repeat first | exact .here | apply Suf.there⟩ rfl rfl ?_; simp only [List.getElem_toArray, List.getElem_cons_succ, List.getElem_cons_zero, Act.put, List.setIfInBounds_toArray, List.set_cons_succ, List.set_cons_zero])) | (guard_target =~ wpTree _ _ _ Tr.nil _ _ _; refine tree_nil ?_)))
      go_ret
      exact ⟨rfl, H.below⟩
end Go.Proofs.Ytmmieilogpmocaa
