/-
  The statements of layer 3 that ask the program alone: what Gcd answers divides both, and whatever divides both divides it.
-/
import Derived.Test.YtdgpdafkngoegaaLaw03a
import Derived.Test.YtdgpdafkngoegaaWide4
import Derived.Test.YtdgpdafkngoegaaWide11
import Derived.Test.YtdgpdafkngoegaaWide12
import Derived.Test.YtdgpdafkngoegaaFit
namespace Go.Proofs.Ytdgpdafkngoegaa
set_option linter.unusedVariables false
set_option linter.unusedSimpArgs false
open Go.RowKit

theorem eq_self' (x : Int) (hx : R256 x) (w : World) : (binOp .eql 24 (iV x) (iV x)).run Try.prog w = .ok (.bool true) w := by
  rw [eq_iV x x hx hx]; simp
theorem divR_range (x y : Int) (hx : R256 x) : R256 (divR x y) := by
  unfold divR
  split
  · exact rest_fits hx
  · unfold R256; omega
theorem divR_dvd {x y : Int} (h : y ∣ x) : divR x y = 0 := by
  unfold divR
  split
  · exact Int.tmod_eq_zero_of_dvd h
  · rfl
theorem divR_zero {x y : Int} (h : divE x y = 0) (hr : divR x y = 0) : y ∣ x := by
  unfold divR at hr
  rw [if_pos h] at hr
  exact Int.dvd_of_tmod_eq_zero hr
theorem rz : R256 0 := by unfold R256; omega
set_option maxRecDepth 100000 in
set_option maxHeartbeats 16000000 in
theorem law_WideShares (x y z : Int) (w : World) (hx : R256 x) (hy : R256 y) (hz : R256 z) : Calls Try.prog 7 #[iV x, iV y, iV z] w fun e w' => e = .returned (.bool true) ∧ Below w.heap.size w w' := by
  have H := Own.start w
  have g1 := guard_iVV
  have g2 := guard_iV
  have g3 := guard_agg
  have h1 := fun w => Gcd_any x y hx hy w
  rcases fe (gcdZ x y) with ⟨rg, f, e⟩ | ⟨_, f, e⟩
  · rw [f, e] at h1
    have gx : gcdZ x y ∣ x := Int.gcd_dvd_left _ _
    have gy : gcdZ x y ∣ y := Int.gcd_dvd_right _ _
    have gz : ∀ c, c ∣ x → c ∣ y → c ∣ gcdZ x y := fun c h k => Int.dvd_coe_gcd h k
    have g0 : gcdZ x y = 0 → x = 0 ∧ y = 0 := fun h => by
      rw [h] at gx gy
      exact ⟨Int.zero_dvd.1 gx, Int.zero_dvd.1 gy⟩
    have gp : 0 ≤ gcdZ x y := by unfold gcdZ; omega
    obtain ⟨g, hg⟩ : ∃ g, gcdZ x y = g := ⟨_, rfl⟩
    rw [hg] at h1 rg gx gy gz g0 gp
    clear hg f e
    by_cases hg0 : g = 0
    · subst hg0
      obtain ⟨hx0, hy0⟩ := g0 rfl
      subst hx0 hy0
      have e0 := eq_self' 0 hx
      rw [iV_zero] at h1 e0 ⊢
      clear gx gy gz g0 gp rg
      go_enter Try.func7, Try.ntmps7
      have tk0 : True := trivial
      have tk1 : True := trivial
      have tk2 : True := trivial
      have tk3 : True := trivial
      have tk4 : True := trivial
      have tk5 : True := trivial
      have tk6 : True := trivial
      go_wp2_with (first
        | (go_at_call 32; (with_reducible refine (awake_any _).mono ?_); rintro e w3 ⟨rfl, hb⟩; replace H := H.ext hb; clear hb; dsimp only; (skip))
        | (go_at_call 36; (with_reducible refine (h1 _).mono ?_); rintro e w3 ⟨rfl, hb⟩; replace H := H.ext hb; clear hb; dsimp only; (skip))
        | (guard_target =~ wpList _ _ _ (_ :: _) _ _; (first | (guard_target =~ wpList _ _ _ (Oper.mk _ (.load _ _) _ _ _ _ :: _) _ _; refine BigFrame.wpList_want rfl (fun K hK => ?_); (refine o_loadNC (row := ?_) rfl rfl H ?_ ?_ ?_ (hK _ _ ?_); rotate_left 1; (repeat first | exact .head _ | apply List.Mem.tail); (focus (intro _; simp [cells_iV, iL_length, setL_i, setL_ii, agg_iL]; done)); (focus (intro _; simp [cells_iV, iL_length, setL_i, setL_ii, agg_iL]; done))); clear hK K) | (guard_target =~ wpList _ _ _ (Oper.mk _ (.store _ _ _) _ _ _ _ :: _) _ _; refine BigFrame.wpList_want rfl (fun K hK => ?_); refine o_store (l' := ?_) (row := ?_) rfl rfl H rfl ?_ ?_ ?_ ?_ (fun w3 H2 => hK _ _ ?_); rotate_left 2; (exact r0); (focus (intro _; (simp [Act.eval, Value.cells, List.getD, cells_iV, iL_length, setL_i, setL_ii, agg_iL]; done))); (focus (simp [Act.eval, Value.cells, List.getD, cells_iV, iL_length, setL_i, setL_ii, agg_iL]; done)); (exact rfl); clear hK K; clear H; (try clear w2); revert w3; intro w2 H; (try simp [Act.eval, List.getD, cells_iV, iL_length, setL_i, setL_ii, agg_iL] at H); (try simp [Value.cells, setL, cells_iV, iL_length, setL_i, setL_ii, agg_iL] at H)) | ((first | (guard_target =~ wpList _ _ _ (Oper.mk _ (.alloc _) _ _ _ _ :: _) _ _; refine BigFrame.wpList_want rfl (fun K hK => ?_); refine o_alloc (z := ?_) rfl ?_ H rfl (fun w3 b2 he H2 => hK _ _ ?_); rotate_left 1; (focus (intro _; simp; with_reducible exact rfl))) | (guard_target =~ wpList _ _ _ (Oper.mk _ (.box _ _) _ _ _ _ :: _) _ _; refine BigFrame.wpList_want rfl (fun K hK => ?_); refine o_box rfl H rfl (fun w3 b2 he H2 => hK _ _ ?_))); clear hK K he; clear H; (try clear w2); revert w3; intro w2 H; (try simp [Act.eval, List.getD, cells_iV, iL_length, setL_i, setL_ii, agg_iL] at H); (try simp [Value.cells, setL, cells_iV, iL_length, setL_i, setL_ii, agg_iL] at H); (first | (clear tk0; rename Nat => c1) | (clear tk1; rename Nat => c2) | (clear tk2; rename Nat => c3) | (clear tk3; rename Nat => c4)))); simp only [Act.put, List.setIfInBounds_toArray, List.set_cons_succ, List.set_cons_zero, cells_iV, iL_length, setL_i, setL_ii, agg_iL]))
      go_ret
      exact ⟨rfl, H.below⟩
    · have eg := eq_iV g 0 rg rz
      rw [show decide (g = 0) = false by simpa using hg0, iV_zero] at eg
      have d1 := fun w => Div_any x g hx rg w
      have d2 := fun w => Div_any y g hy rg w
      rw [divR_dvd gx] at d1
      rw [divR_dvd gy] at d2
      have hs := fun w => sign_any g rg w
      rw [show signZ g = 1 by unfold signZ; rw [if_neg (by omega), if_neg hg0]] at hs
      have n0 := ne_iV 0 0 rz rz
      have e0 := eq_self' 0 rz
      rw [show (!decide ((0 : Int) = 0)) = false from rfl] at n0
      by_cases hz0 : z = 0
      · subst hz0
        rw [iV_zero] at d1 d2 e0 n0 ⊢
        clear gx gy gz g0 gp rg hg0
        go_enter Try.func7, Try.ntmps7
        have tk0 : True := trivial
        have tk1 : True := trivial
        have tk2 : True := trivial
        have tk3 : True := trivial
        have tk4 : True := trivial
        have tk5 : True := trivial
        have tk6 : True := trivial
        go_wp2_with (first
          | (go_at_call 36; (with_reducible refine (h1 _).mono ?_); rintro e w3 ⟨rfl, hb⟩; replace H := H.ext hb; clear hb; dsimp only; (skip))
          | (go_at_call 31; (with_reducible refine (d1 _).mono ?_); rintro e w3 ⟨rfl, hb⟩; replace H := H.ext hb; clear hb; dsimp only; (skip))
          | (go_at_call 31; (with_reducible refine (d2 _).mono ?_); rintro e w3 ⟨rfl, hb⟩; replace H := H.ext hb; clear hb; dsimp only; (skip))
          | (go_at_call 42; (with_reducible refine (hs _).mono ?_); rintro e w3 ⟨rfl, hb⟩; replace H := H.ext hb; clear hb; dsimp only; (skip))
          | (guard_target =~ wpList _ _ _ (_ :: _) _ _; (first | (guard_target =~ wpList _ _ _ (Oper.mk _ (.load _ _) _ _ _ _ :: _) _ _; refine BigFrame.wpList_want rfl (fun K hK => ?_); (refine o_loadNC (row := ?_) rfl rfl H ?_ ?_ ?_ (hK _ _ ?_); rotate_left 1; (repeat first | exact .head _ | apply List.Mem.tail); (focus (intro _; simp [cells_iV, iL_length, setL_i, setL_ii, agg_iL]; done)); (focus (intro _; simp [cells_iV, iL_length, setL_i, setL_ii, agg_iL]; done))); clear hK K) | (guard_target =~ wpList _ _ _ (Oper.mk _ (.store _ _ _) _ _ _ _ :: _) _ _; refine BigFrame.wpList_want rfl (fun K hK => ?_); refine o_store (l' := ?_) (row := ?_) rfl rfl H rfl ?_ ?_ ?_ ?_ (fun w3 H2 => hK _ _ ?_); rotate_left 2; (first | exact r0 | exact r1); (focus (intro _; (first | (simp [Act.eval, List.getD, cells_iV, iL_length, setL_i, setL_ii, agg_iL]; done) | (simp [Act.eval, Value.cells, List.getD, cells_iV, iL_length, setL_i, setL_ii, agg_iL]; done)))); (focus (first | (simp [Act.eval, List.getD, cells_iV, iL_length, setL_i, setL_ii, agg_iL]; done) | (simp [Act.eval, Value.cells, List.getD, cells_iV, iL_length, setL_i, setL_ii, agg_iL]; done))); (exact rfl); clear hK K; clear H; (try clear w2); revert w3; intro w2 H; (try simp [Act.eval, List.getD, cells_iV, iL_length, setL_i, setL_ii, agg_iL] at H); (try simp [Value.cells, setL, cells_iV, iL_length, setL_i, setL_ii, agg_iL] at H)) | ((first | (guard_target =~ wpList _ _ _ (Oper.mk _ (.alloc _) _ _ _ _ :: _) _ _; refine BigFrame.wpList_want rfl (fun K hK => ?_); refine o_alloc (z := ?_) rfl ?_ H rfl (fun w3 b2 he H2 => hK _ _ ?_); rotate_left 1; (focus (intro _; simp; with_reducible exact rfl))) | (guard_target =~ wpList _ _ _ (Oper.mk _ (.box _ _) _ _ _ _ :: _) _ _; refine BigFrame.wpList_want rfl (fun K hK => ?_); refine o_box rfl H rfl (fun w3 b2 he H2 => hK _ _ ?_))); clear hK K he; clear H; (try clear w2); revert w3; intro w2 H; (try simp [Act.eval, List.getD, cells_iV, iL_length, setL_i, setL_ii, agg_iL] at H); (try simp [Value.cells, setL, cells_iV, iL_length, setL_i, setL_ii, agg_iL] at H); (first | (clear tk0; rename Nat => c1) | (clear tk1; rename Nat => c2) | (clear tk2; rename Nat => c3) | (clear tk3; rename Nat => c4) | (clear tk4; rename Nat => c5) | (clear tk5; rename Nat => c6) | (clear tk6; rename Nat => c7) | (skip)))); simp only [Act.put, List.setIfInBounds_toArray, List.set_cons_succ, List.set_cons_zero, cells_iV, iL_length, setL_i, setL_ii, agg_iL]))
        go_ret
        exact ⟨rfl, H.below⟩
      · have ez := eq_iV z 0 hz rz
        rw [show decide (z = 0) = false by simpa using hz0, iV_zero] at ez
        have d3 := fun w => Div_any x z hx hz w
        have d4 := fun w => Div_any y z hy hz w
        have d5 := fun w => Div_any g z rg hz w
        have n3 := ne_iV (divR x z) 0 (divR_range x z hx) rz
        have n4 := ne_iV (divR y z) 0 (divR_range y z hy) rz
        have n5 := eq_iV (divR g z) 0 (divR_range g z rg) rz
        rw [iV_zero] at n3 n4 n5 d1 d2 n0
        have cs : divE x z = 0 ∧ divE y z = 0 ∧ divE g z = 0 ∧ divR x z = 0 ∧ divR y z = 0 → divR g z = 0 := fun ⟨k1, k2, k3, k4, k5⟩ => divR_dvd (gz _ (divR_zero k1 k4) (divR_zero k2 k5))
        obtain ⟨a3, ha3⟩ : ∃ v, divR x z = v := ⟨_, rfl⟩
        obtain ⟨a4, ha4⟩ : ∃ v, divR y z = v := ⟨_, rfl⟩
        obtain ⟨a5, ha5⟩ : ∃ v, divR g z = v := ⟨_, rfl⟩
        obtain ⟨e3, he3⟩ : ∃ v, divE x z = v := ⟨_, rfl⟩
        obtain ⟨e4, he4⟩ : ∃ v, divE y z = v := ⟨_, rfl⟩
        obtain ⟨e5, he5⟩ : ∃ v, divE g z = v := ⟨_, rfl⟩
        rw [ha3] at d3 n3
        rw [ha4] at d4 n4
        rw [ha5] at d5 n5
        rw [he3] at d3
        rw [he4] at d4
        rw [he5] at d5
        rw [ha3, ha4, ha5, he3, he4, he5] at cs
        clear gx gy gz g0 gp rg hg0 hz0 ha3 ha4 ha5 he3 he4 he5
        have cc : e3 ≠ 0 ∨ (e3 = 0 ∧ e4 ≠ 0) ∨ (e3 = 0 ∧ e4 = 0 ∧ e5 ≠ 0) ∨ (e3 = 0 ∧ e4 = 0 ∧ e5 = 0 ∧ a3 ≠ 0) ∨ (e3 = 0 ∧ e4 = 0 ∧ e5 = 0 ∧ a3 = 0 ∧ a4 ≠ 0) ∨ (e3 = 0 ∧ e4 = 0 ∧ e5 = 0 ∧ a3 = 0 ∧ a4 = 0 ∧ a5 = 0) := by
          omega
        clear cs
        rcases cc with k3 | ⟨rfl, k4⟩ | ⟨rfl, rfl, k5⟩ | ⟨rfl, rfl, rfl, j3⟩ | ⟨rfl, rfl, rfl, rfl, j4⟩ | ⟨rfl, rfl, rfl, rfl, rfl, rfl⟩
        all_goals
          (try replace k3 : (e3 != 0) = true := by simpa using k3)
          (try replace k4 : (e4 != 0) = true := by simpa using k4)
          (try replace k5 : (e5 != 0) = true := by simpa using k5)
          (try replace j3 : decide (a3 = 0) = false := by simpa using j3)
          (try replace j4 : decide (a4 = 0) = false := by simpa using j4)
          go_enter Try.func7, Try.ntmps7
          have tk0 : True := trivial
          have tk1 : True := trivial
          have tk2 : True := trivial
          have tk3 : True := trivial
          have tk4 : True := trivial
          have tk5 : True := trivial
          have tk6 : True := trivial
          go_wp2_with (first
            | go_big_skip
            | (go_at_call 32; (with_reducible refine (awake_any _).mono ?_); rintro e w3 ⟨rfl, hb⟩; replace H := H.ext hb; clear hb; dsimp only; (skip))
            | (go_at_call 36; (with_reducible refine (h1 _).mono ?_); rintro e w3 ⟨rfl, hb⟩; replace H := H.ext hb; clear hb; dsimp only; (skip))
            | (go_at_call 31; (with_reducible refine (d1 _).mono ?_); rintro e w3 ⟨rfl, hb⟩; replace H := H.ext hb; clear hb; dsimp only; (skip))
            | (go_at_call 31; (with_reducible refine (d2 _).mono ?_); rintro e w3 ⟨rfl, hb⟩; replace H := H.ext hb; clear hb; dsimp only; (skip))
            | (go_at_call 31; (with_reducible refine (d3 _).mono ?_); rintro e w3 ⟨rfl, hb⟩; replace H := H.ext hb; clear hb; dsimp only; (skip))
            | (go_at_call 31; (with_reducible refine (d4 _).mono ?_); rintro e w3 ⟨rfl, hb⟩; replace H := H.ext hb; clear hb; dsimp only; (skip))
            | (go_at_call 31; (with_reducible refine (d5 _).mono ?_); rintro e w3 ⟨rfl, hb⟩; replace H := H.ext hb; clear hb; dsimp only; (skip))
            | (go_at_call 42; (with_reducible refine (hs _).mono ?_); rintro e w3 ⟨rfl, hb⟩; replace H := H.ext hb; clear hb; dsimp only; (skip))
            | (guard_target =~ wpList _ _ _ (_ :: _) _ _; (first | (guard_target =~ wpList _ _ _ (Oper.mk _ (.load _ _) _ _ _ _ :: _) _ _; refine BigFrame.wpList_want rfl (fun K hK => ?_); (refine o_loadNC (row := ?_) rfl rfl H ?_ ?_ ?_ (hK _ _ ?_); rotate_left 1; (repeat first | exact .head _ | apply List.Mem.tail); (focus (intro _; simp [cells_iV, iL_length, setL_i, setL_ii, agg_iL]; done)); (focus (intro _; simp [cells_iV, iL_length, setL_i, setL_ii, agg_iL]; done))); clear hK K) | (guard_target =~ wpList _ _ _ (Oper.mk _ (.store _ _ _) _ _ _ _ :: _) _ _; refine BigFrame.wpList_want rfl (fun K hK => ?_); refine o_store (l' := ?_) (row := ?_) rfl rfl H rfl ?_ ?_ ?_ ?_ (fun w3 H2 => hK _ _ ?_); rotate_left 2; (first | exact r0 | exact r1); (focus (intro _; (first | (simp [Act.eval, List.getD, cells_iV, iL_length, setL_i, setL_ii, agg_iL]; done) | (simp [Act.eval, Value.cells, List.getD, cells_iV, iL_length, setL_i, setL_ii, agg_iL]; done)))); (focus (first | (simp [Act.eval, List.getD, cells_iV, iL_length, setL_i, setL_ii, agg_iL]; done) | (simp [Act.eval, Value.cells, List.getD, cells_iV, iL_length, setL_i, setL_ii, agg_iL]; done))); (exact rfl); clear hK K; clear H; (try clear w2); revert w3; intro w2 H; (try simp [Act.eval, List.getD, cells_iV, iL_length, setL_i, setL_ii, agg_iL] at H); (try simp [Value.cells, setL, cells_iV, iL_length, setL_i, setL_ii, agg_iL] at H)) | ((first | (guard_target =~ wpList _ _ _ (Oper.mk _ (.alloc _) _ _ _ _ :: _) _ _; refine BigFrame.wpList_want rfl (fun K hK => ?_); refine o_alloc (z := ?_) rfl ?_ H rfl (fun w3 b2 he H2 => hK _ _ ?_); rotate_left 1; (focus (intro _; simp; with_reducible exact rfl))) | (guard_target =~ wpList _ _ _ (Oper.mk _ (.box _ _) _ _ _ _ :: _) _ _; refine BigFrame.wpList_want rfl (fun K hK => ?_); refine o_box rfl H rfl (fun w3 b2 he H2 => hK _ _ ?_))); clear hK K he; clear H; (try clear w2); revert w3; intro w2 H; (try simp [Act.eval, List.getD, cells_iV, iL_length, setL_i, setL_ii, agg_iL] at H); (try simp [Value.cells, setL, cells_iV, iL_length, setL_i, setL_ii, agg_iL] at H); (first | (clear tk0; rename Nat => c1) | (clear tk1; rename Nat => c2) | (clear tk2; rename Nat => c3) | (clear tk3; rename Nat => c4) | (clear tk4; rename Nat => c5) | (clear tk5; rename Nat => c6) | (clear tk6; rename Nat => c7) | (skip)))); simp only [Act.put, List.setIfInBounds_toArray, List.set_cons_succ, List.set_cons_zero, cells_iV, iL_length, setL_i, setL_ii, agg_iL]))
          go_ret
          exact ⟨rfl, H.below⟩
  · rw [f, e] at h1
    go_enter Try.func7, Try.ntmps7
    have tk0 : True := trivial
    have tk1 : True := trivial
    have tk2 : True := trivial
    have tk3 : True := trivial
    have tk4 : True := trivial
    have tk5 : True := trivial
    have tk6 : True := trivial
    go_wp2_with (first
      | (go_at_call 32; (with_reducible refine (awake_any _).mono ?_); rintro e w3 ⟨rfl, hb⟩; replace H := H.ext hb; clear hb; dsimp only; (skip))
      | (go_at_call 36; (with_reducible refine (h1 _).mono ?_); rintro e w3 ⟨rfl, hb⟩; replace H := H.ext hb; clear hb; dsimp only; (skip))
      | (guard_target =~ wpList _ _ _ (_ :: _) _ _; (first | (guard_target =~ wpList _ _ _ (Oper.mk _ (.load _ _) _ _ _ _ :: _) _ _; refine BigFrame.wpList_want rfl (fun K hK => ?_); (refine o_loadNC (row := ?_) rfl rfl H ?_ ?_ ?_ (hK _ _ ?_); rotate_left 1; (repeat first | exact .head _ | apply List.Mem.tail); (focus (intro _; simp [cells_iV, iL_length, setL_i, setL_ii, agg_iL]; done)); (focus (intro _; simp [cells_iV, iL_length, setL_i, setL_ii, agg_iL]; done))); clear hK K) | (guard_target =~ wpList _ _ _ (Oper.mk _ (.store _ _ _) _ _ _ _ :: _) _ _; refine BigFrame.wpList_want rfl (fun K hK => ?_); refine o_store (l' := ?_) (row := ?_) rfl rfl H rfl ?_ ?_ ?_ ?_ (fun w3 H2 => hK _ _ ?_); rotate_left 2; (exact r0); (focus (intro _; (simp [Act.eval, List.getD, cells_iV, iL_length, setL_i, setL_ii, agg_iL]; done))); (focus (simp [Act.eval, List.getD, cells_iV, iL_length, setL_i, setL_ii, agg_iL]; done)); (exact rfl); clear hK K; clear H; (try clear w2); revert w3; intro w2 H; (try simp [Act.eval, List.getD, cells_iV, iL_length, setL_i, setL_ii, agg_iL] at H); (try simp [Value.cells, setL, cells_iV, iL_length, setL_i, setL_ii, agg_iL] at H)) | ((first | (guard_target =~ wpList _ _ _ (Oper.mk _ (.alloc _) _ _ _ _ :: _) _ _; refine BigFrame.wpList_want rfl (fun K hK => ?_); refine o_alloc (z := ?_) rfl ?_ H rfl (fun w3 b2 he H2 => hK _ _ ?_); rotate_left 1; (focus (intro _; simp; with_reducible exact rfl))) | (guard_target =~ wpList _ _ _ (Oper.mk _ (.box _ _) _ _ _ _ :: _) _ _; refine BigFrame.wpList_want rfl (fun K hK => ?_); refine o_box rfl H rfl (fun w3 b2 he H2 => hK _ _ ?_))); clear hK K he; clear H; (try clear w2); revert w3; intro w2 H; (try simp [Act.eval, List.getD, cells_iV, iL_length, setL_i, setL_ii, agg_iL] at H); (try simp [Value.cells, setL, cells_iV, iL_length, setL_i, setL_ii, agg_iL] at H); (first | (clear tk0; rename Nat => c1) | (clear tk1; rename Nat => c2) | (clear tk2; rename Nat => c3) | (clear tk3; rename Nat => c4)))); simp only [Act.put, List.setIfInBounds_toArray, List.set_cons_succ, List.set_cons_zero, cells_iV, iL_length, setL_i, setL_ii, agg_iL]))
    go_ret
    exact ⟨rfl, H.below⟩
end Go.Proofs.Ytdgpdafkngoegaa
