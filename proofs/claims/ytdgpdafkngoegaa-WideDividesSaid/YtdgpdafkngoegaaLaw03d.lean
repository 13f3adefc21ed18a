/-
  The statements of layer 3 that ask the program alone: a is q b + r.
-/
import Derived.Test.YtdgpdafkngoegaaLaw03a
import Derived.Test.YtdgpdafkngoegaaWide3
import Derived.Test.YtdgpdafkngoegaaWide4
import Derived.Test.YtdgpdafkngoegaaWide5
import Derived.Test.YtdgpdafkngoegaaWide11
import Derived.Test.YtdgpdafkngoegaaWide17
import Derived.Test.YtdgpdafkngoegaaFit
namespace Go.Proofs.Ytdgpdafkngoegaa
set_option linter.unusedVariables false
set_option linter.unusedSimpArgs false
open Go.RowKit

theorem ne_self (x : Int) (hx : R256 x) (w : World) : (binOp .neq 24 (iV x) (iV x)).run Try.prog w = .ok (.bool false) w := by
  rw [ne_iV x x hx hx]; simp
theorem eq_self' (x : Int) (hx : R256 x) (w : World) : (binOp .eql 24 (iV x) (iV x)).run Try.prog w = .ok (.bool true) w := by
  rw [eq_iV x x hx hx]; simp
theorem tdiv_large {x y : Int} (hx : R256 x) (h : ¬ R256 (x.tdiv y)) : y = -1 ∧ x < 0 := by
  have h1 : (x.tdiv y).natAbs = x.natAbs / y.natAbs := Int.natAbs_tdiv _ _
  have h2 := abs256 hx
  have h3 : y.natAbs < 2 := by
    by_cases hy : 2 ≤ y.natAbs
    · exfalso
      have h4 : x.natAbs / y.natAbs ≤ x.natAbs / 2 := Nat.div_le_div_left hy (by decide)
      apply h
      unfold R256
      omega
    · omega
  by_cases h4 : y = 0
  · subst h4
    exfalso; apply h
    rw [Int.tdiv_zero]; unfold R256; omega
  · by_cases h5 : y = 1
    · subst h5
      exfalso; apply h
      rwa [Int.tdiv_one]
    · obtain rfl : y = -1 := by omega
      refine ⟨rfl, ?_⟩
      rw [Int.tdiv_neg, Int.tdiv_one] at h
      unfold R256 at h hx
      omega
theorem back_fits {x y : Int} (hx : R256 x) : R256 (x.tdiv y * y) := by
  have h1 : (x.tdiv y * y).natAbs ≤ x.natAbs := by
    rw [Int.natAbs_mul, Int.natAbs_tdiv]
    exact Nat.div_mul_le_self _ _
  have h2 := abs256 hx
  have h3 : (x.tmod y).natAbs ≤ x.natAbs := by rw [Int.natAbs_tmod]; exact Nat.mod_le _ _
  have h4 : x.tdiv y * y + x.tmod y = x := Int.tdiv_mul_add_tmod x y
  unfold R256 at hx ⊢
  by_cases h5 : 0 ≤ x
  · have h6 := Int.tmod_nonneg y h5
    omega
  · omega
theorem fe_in {z : Int} (h : R256 z) : fitZ z = z ∧ errZ z = 0 := by
  rcases fe z with h1 | h1
  · exact h1.2
  · exact absurd h h1.1
theorem tmod_lt' {x y : Int} (hy : y ≠ 0) : (x.tmod y).natAbs < y.natAbs := by
  rw [Int.natAbs_tmod]
  exact Nat.mod_lt _ (by omega)
theorem tmod_sign {x y : Int} : (x.tmod y < 0 → x < 0) ∧ (0 < x.tmod y → 0 < x) := by
  constructor
  · intro h
    by_cases h5 : 0 ≤ x
    · have h6 := Int.tmod_nonneg y h5
      omega
    · omega
  · intro h
    by_cases h5 : 0 < x
    · exact h5
    · have h6 := Int.tmod_nonneg y (a := -x) (by omega)
      rw [Int.neg_tmod] at h6
      omega
/-- The sign of a number, and the number turned below nought. -/
theorem low_of (r : Int) (hr : R256 r) : ∃ X, R256 X ∧ X.natAbs = r.natAbs ∧ X ≤ 0 ∧ ((signZ r = 0 ∧ r = 0 ∧ X = r) ∨ (signZ r = -1 ∧ r < 0 ∧ X = r) ∨ (signZ r = 1 ∧ 0 < r ∧ fitZ (-r) = X)) := by
  rcases Int.lt_trichotomy r 0 with h | h | h
  · exact ⟨r, hr, rfl, by omega, .inr (.inl ⟨by unfold signZ; rw [if_pos h], h, rfl⟩)⟩
  · exact ⟨r, hr, rfl, by omega, .inl ⟨by subst h; rfl, h, rfl⟩⟩
  · have hm : R256 (-r) := by unfold R256 at *; omega
    exact ⟨-r, hm, by omega, by omega, .inr (.inr ⟨by unfold signZ; rw [if_neg (by omega), if_neg (by omega)], h, (fe_in hm).1⟩)⟩
theorem rest_sign {x y : Int} : signZ (x.tmod y) = 0 ∨ signZ (x.tmod y) = signZ x := by
  obtain ⟨h1, h2⟩ := tmod_sign (x := x) (y := y)
  unfold signZ
  rcases Int.lt_trichotomy (x.tmod y) 0 with h | h | h
  · right; rw [if_pos h, if_pos (h1 h)]
  · left; rw [if_neg (by omega), if_pos h]
  · right
    have := h2 h
    rw [if_neg (by omega), if_neg (by omega), if_neg (by omega), if_neg (by omega)]
set_option maxRecDepth 100000 in
set_option maxHeartbeats 16000000 in
theorem law_WideDivides (x y : Int) (w : World) (hx : R256 x) (hy : R256 y) : Calls Try.prog 17 #[iV x, iV y] w fun e w' => e = .returned (.bool true) ∧ Below w.heap.size w w' := by
  have H := Own.start w
  have g1 := guard_iVV
  have g2 := guard_iV
  have h1 := fun w => Div_any x y hx hy w
  have hq := eq_iV y 0 hy (by unfold R256; omega)
  rw [iV_zero] at hq
  by_cases h0 : y = 0
  · have hE : divE x y = 4 := by unfold divE; rw [if_pos h0]
    have hQ : divQ x y = 0 := by unfold divQ; rw [hE]; rfl
    have hR : divR x y = 0 := by unfold divR; rw [hE]; rfl
    rw [hE, hQ, hR] at h1
    clear hE hQ hR
    subst h0
    have e1 := eq_self' 0 hy
    rw [iV_zero] at h1 e1 hq ⊢
    have g3 := guard_agg
    go_enter Try.func17, Try.ntmps17
    have tk0 : True := trivial
    have tk1 : True := trivial
    have tk2 : True := trivial
    have tk3 : True := trivial
    have tk4 : True := trivial
    have tk5 : True := trivial
    have tk6 : True := trivial
    go_wp2_with (first
      | (go_at_call 32; (with_reducible refine (awake_any _).mono ?_); rintro e w3 ⟨rfl, hb⟩; replace H := H.ext hb; clear hb; dsimp only; (skip))
      | (go_at_call 31; (with_reducible refine (h1 _).mono ?_); rintro e w3 ⟨rfl, hb⟩; replace H := H.ext hb; clear hb; dsimp only; (skip))
      | (guard_target =~ wpList _ _ _ (_ :: _) _ _; (first | (guard_target =~ wpList _ _ _ (Oper.mk _ (.load _ _) _ _ _ _ :: _) _ _; refine BigFrame.wpList_want rfl (fun K hK => ?_); (refine o_loadNC (row := ?_) rfl rfl H ?_ ?_ ?_ (hK _ _ ?_); rotate_left 1; (repeat first | exact .head _ | apply List.Mem.tail); (focus (intro _; simp [cells_iV, iL_length, setL_i, setL_ii, agg_iL]; done)); (focus (intro _; simp [cells_iV, iL_length, setL_i, setL_ii, agg_iL]; done))); clear hK K) | (guard_target =~ wpList _ _ _ (Oper.mk _ (.store _ _ _) _ _ _ _ :: _) _ _; refine BigFrame.wpList_want rfl (fun K hK => ?_); refine o_store (l' := ?_) (row := ?_) rfl rfl H rfl ?_ ?_ ?_ ?_ (fun w3 H2 => hK _ _ ?_); rotate_left 2; (first | exact r0 | exact r1); (focus (intro _; (simp [Act.eval, Value.cells, List.getD, cells_iV, iL_length, setL_i, setL_ii, agg_iL]; done))); (focus (simp [Act.eval, Value.cells, List.getD, cells_iV, iL_length, setL_i, setL_ii, agg_iL]; done)); (exact rfl); clear hK K; clear H; (try clear w2); revert w3; intro w2 H; (try simp [Act.eval, List.getD, cells_iV, iL_length, setL_i, setL_ii, agg_iL] at H); (try simp [Value.cells, setL, cells_iV, iL_length, setL_i, setL_ii, agg_iL] at H)) | ((first | (guard_target =~ wpList _ _ _ (Oper.mk _ (.alloc _) _ _ _ _ :: _) _ _; refine BigFrame.wpList_want rfl (fun K hK => ?_); refine o_alloc (z := ?_) rfl ?_ H rfl (fun w3 b2 he H2 => hK _ _ ?_); rotate_left 1; (focus (intro _; simp; with_reducible exact rfl))) | (guard_target =~ wpList _ _ _ (Oper.mk _ (.box _ _) _ _ _ _ :: _) _ _; refine BigFrame.wpList_want rfl (fun K hK => ?_); refine o_box rfl H rfl (fun w3 b2 he H2 => hK _ _ ?_))); clear hK K he; clear H; (try clear w2); revert w3; intro w2 H; (try simp [Act.eval, List.getD, cells_iV, iL_length, setL_i, setL_ii, agg_iL] at H); (try simp [Value.cells, setL, cells_iV, iL_length, setL_i, setL_ii, agg_iL] at H); (first | (clear tk0; rename Nat => c1) | (clear tk1; rename Nat => c2) | (clear tk2; rename Nat => c3) | (clear tk3; rename Nat => c4)))); simp only [Act.put, List.setIfInBounds_toArray, List.set_cons_succ, List.set_cons_zero, cells_iV, iL_length, setL_i, setL_ii, agg_iL]))
    go_ret
    exact ⟨rfl, H.below⟩
  · have d0 : decide (y = 0) = false := by simpa using h0
    rw [d0] at hq
    have hE : divE x y = errZ (x.tdiv y) := by unfold divE; rw [if_neg h0]
    by_cases hf : R256 (x.tdiv y)
    · obtain ⟨f1, f2⟩ := fe_in hf
      have hQ : divQ x y = x.tdiv y := by unfold divQ; rw [hE, f2]; rfl
      have hR : divR x y = x.tmod y := by unfold divR; rw [hE, f2]; rfl
      have rr : R256 (x.tmod y) := rest_fits hx
      have hM := fun w => Mul_any (x.tdiv y) y hf hy w
      have hA := fun w => add_any (x.tdiv y * y) (x.tmod y) (back_fits hx) rr w
      obtain ⟨f3, f4⟩ := fe_in (back_fits (y := y) hx)
      obtain ⟨f5, f6⟩ := fe_in hx
      have n1 := ne_self x hx
      rw [Int.tdiv_mul_add_tmod x y, f5, f6] at hA
      rw [f3, f4] at hM
      rw [hE, hQ, hR, f2] at h1
      have hsr := fun w => sign_any (x.tmod y) rr w
      have hsx := fun w => sign_any x hx w
      have hsy := fun w => sign_any y hy w
      have hNr := fun w => neg_any (x.tmod y) rr w
      have hNy := fun w => neg_any y hy w
      have hlt := tmod_lt' (x := x) h0
      have hS := rest_sign (x := x) (y := y)
      obtain ⟨q, e1⟩ : ∃ q, x.tdiv y = q := ⟨_, rfl⟩
      obtain ⟨p, e3⟩ : ∃ q, x.tdiv y * y = q := ⟨_, rfl⟩
      obtain ⟨r, e2⟩ : ∃ r, x.tmod y = r := ⟨_, rfl⟩
      rw [e1, e2] at h1
      rw [e1] at e3
      rw [e1, e3] at hM
      rw [e1, e3, e2] at hA
      rw [e2] at hsr hNr hlt hS rr
      clear e1 e2 e3 f1 f2 f3 f4 f5 f6 hE hQ hR hf d0
      obtain ⟨X, rX, aX, nX, hX⟩ := low_of r rr
      obtain ⟨Y, rY, aY, nY, hY⟩ := low_of y hy
      have hC := fun w => Cmp_any Y X rY rX w
      rw [cmpZ_lt (by omega : Y < X)] at hC
      clear aX aY nX nY rX rY hlt rr
      rcases hX with ⟨k, rfl, rfl⟩ | ⟨k, _, rfl⟩ | ⟨k, _, f⟩ <;> rcases hY with ⟨j, j2, rfl⟩ | ⟨j, _, rfl⟩ | ⟨j, _, f'⟩
      all_goals first
        | exact absurd j2 h0
        | skip
      all_goals
        rw [k] at hsr
        rw [j] at hsy
        (try rw [f] at hNr)
        (try rw [f'] at hNy)
        (first | (have q := hS.resolve_left (by rw [k]; decide); rw [k] at q; rw [← q] at hsx; clear q) | skip)
        clear hS h0
        go_enter Try.func17, Try.ntmps17
        have tk0 : True := trivial
        have tk1 : True := trivial
        have tk2 : True := trivial
        have tk3 : True := trivial
        have tk4 : True := trivial
        have tk5 : True := trivial
        have tk6 : True := trivial
        go_wp2_with (first
          | (guard_target =~ Code.wp _ (Code.region 8 _ true) _ _ _; refine region_tree0 8 (G := True) (.q 0 (.q 1 (.q 2 (.q 3 (.q 4 (.q 5 (.q 6 (.q 7 (.q 8 (.q 9 (.q 10 (.q 11 (.q 12 (.e 13 (.q 14 (.q 15 (.q 16 (.q 18 (.e 17 (.e 19 (.q 20 (.q 21 (.q 22 .nil))))))))))))))))))))))) (by kernel_rfl) (by intro c a d v w h; cases d <;> exact h) (by kernel_rfl) H ⟨trivial⟩ (fun _ w3 H2 => ?_); (clear H; (try clear w2); revert w3; intro w2 H))
          | (guard_target =~ Code.wp _ (Code.region 10 _ true) _ _ _; refine region_tree0 10 (G := ?_) (.q 0 (.q 1 (.both (.e 2 (.e 3 (.e 4 (.e 5 .nil)))) (.e 3 (.e 2 (.e 4 (.e 5 .nil))))))) (by kernel_rfl) (by intro c a d v w h; cases d <;> exact h) (by kernel_rfl) H ?_ (fun key10 w3 H2 => ?_); rotate_left 2; (revert w3; intro w2 H))
          | (guard_target =~ Key 10 _; refine ⟨?_⟩; intro nb2 nb3 w2 H)
          | (go_at_call 32; (with_reducible refine (awake_any _).mono ?_); rintro e w3 ⟨rfl, hb⟩; replace H := H.ext hb; clear hb; dsimp only; (skip))
          | (go_at_call 31; (with_reducible refine (h1 _).mono ?_); rintro e w3 ⟨rfl, hb⟩; replace H := H.ext hb; clear hb; dsimp only; (skip))
          | (go_at_call 56; (with_reducible refine (hM _).mono ?_); rintro e w3 ⟨rfl, hb⟩; replace H := H.ext hb; clear hb; dsimp only; (skip))
          | (go_at_call 51; (with_reducible refine (hA _).mono ?_); rintro e w3 ⟨rfl, hb⟩; replace H := H.ext hb; clear hb; dsimp only; (skip))
          | (go_at_call 42; (with_reducible refine (hsr _).mono ?_); rintro e w3 ⟨rfl, hb⟩; replace H := H.ext hb; clear hb; dsimp only; (first | (refine hK _ _ ⟨_, H, by repeat first | exact .here | apply Suf.there⟩ ?_; clear hK K; (try simp only [Act.put, List.setIfInBounds_toArray, List.set_cons_succ, List.set_cons_zero, cells_iV, iL_length, setL_i, setL_ii, agg_iL])) | skip))
          | (go_at_call 42; (with_reducible refine (hsx _).mono ?_); rintro e w3 ⟨rfl, hb⟩; replace H := H.ext hb; clear hb; dsimp only; (refine hK _ _ ⟨_, H, by repeat first | exact .here | apply Suf.there⟩ ?_; clear hK K; (try simp only [Act.put, List.setIfInBounds_toArray, List.set_cons_succ, List.set_cons_zero, cells_iV, iL_length, setL_i, setL_ii, agg_iL])))
          | (go_at_call 42; (with_reducible refine (hsy _).mono ?_); rintro e w3 ⟨rfl, hb⟩; replace H := H.ext hb; clear hb; dsimp only; (skip))
          | (go_at_call 40; (with_reducible refine (hNr _).mono ?_); rintro e w3 ⟨rfl, hb⟩; replace H := H.ext hb; clear hb; dsimp only; (skip))
          | (go_at_call 40; (with_reducible refine (hNy _).mono ?_); rintro e w3 ⟨rfl, hb⟩; replace H := H.ext hb; clear hb; dsimp only; (skip))
          | (go_at_call 55; (with_reducible refine (hC _).mono ?_); rintro e w3 ⟨rfl, hb⟩; replace H := H.ext hb; clear hb; dsimp only; (skip))
          | (guard_target =~ wpList _ _ _ (_ :: _) _ _; (first | (guard_target =~ wpList _ _ _ (Oper.mk _ (.load _ _) _ _ _ _ :: _) _ _; refine BigFrame.wpList_want rfl (fun K hK => ?_); (refine o_loadNC (row := ?_) rfl rfl H ?_ ?_ ?_ (hK _ _ ?_); rotate_left 1; (repeat first | exact .head _ | apply List.Mem.tail); (focus (intro _; simp [cells_iV, iL_length, setL_i, setL_ii, agg_iL]; done)); (focus (intro _; simp [cells_iV, iL_length, setL_i, setL_ii, agg_iL]; done))); clear hK K) | (guard_target =~ wpList _ _ _ (Oper.mk _ (.store _ _ _) _ _ _ _ :: _) _ _; refine BigFrame.wpList_want rfl (fun K hK => ?_); refine o_store (l' := ?_) (row := ?_) rfl rfl H rfl ?_ ?_ ?_ ?_ (fun w3 H2 => hK _ _ ?_); rotate_left 2; (first | exact r0 | exact r1); (focus (intro _; (simp [Act.eval, List.getD, cells_iV, iL_length, setL_i, setL_ii, agg_iL]; done))); (focus (simp [Act.eval, List.getD, cells_iV, iL_length, setL_i, setL_ii, agg_iL]; done)); (exact rfl); clear hK K; clear H; (try clear w2); revert w3; intro w2 H; (try simp [Act.eval, List.getD, cells_iV, iL_length, setL_i, setL_ii, agg_iL] at H); (try simp [Value.cells, setL, cells_iV, iL_length, setL_i, setL_ii, agg_iL] at H)) | ((first | (guard_target =~ wpList _ _ _ (Oper.mk _ (.alloc _) _ _ _ _ :: _) _ _; refine BigFrame.wpList_want rfl (fun K hK => ?_); refine o_alloc (z := ?_) rfl ?_ H rfl (fun w3 b2 he H2 => hK _ _ ?_); rotate_left 1; (focus (intro _; simp; with_reducible exact rfl))) | (guard_target =~ wpList _ _ _ (Oper.mk _ (.box _ _) _ _ _ _ :: _) _ _; refine BigFrame.wpList_want rfl (fun K hK => ?_); refine o_box rfl H rfl (fun w3 b2 he H2 => hK _ _ ?_))); clear hK K he; clear H; (try clear w2); revert w3; intro w2 H; (try simp [Act.eval, List.getD, cells_iV, iL_length, setL_i, setL_ii, agg_iL] at H); (try simp [Value.cells, setL, cells_iV, iL_length, setL_i, setL_ii, agg_iL] at H); (first | (clear tk0; rename Nat => c1) | (clear tk1; rename Nat => c2) | (clear tk2; rename Nat => c3) | (clear tk3; rename Nat => c4) | (clear tk4; rename Nat => c5) | (clear tk5; rename Nat => c6)))); simp only [Act.put, List.setIfInBounds_toArray, List.set_cons_succ, List.set_cons_zero, cells_iV, iL_length, setL_i, setL_ii, agg_iL])
          | (guard_target =~ wpTree _ _ _ _ _ _ _; first | (guard_target =~ wpTree _ _ _ (Tr.q _ _) _ _ _; first | (refine tree_quiet ⟨_, H, by repeat first | exact .here | apply Suf.there⟩ rfl rfl rfl (fun K hK => ?_); simp only [List.getElem_toArray, List.getElem_cons_succ, List.getElem_cons_zero]; first | (guard_target =~ Oper.quiet _ (Oper.mk _ (.load _ _) _ _ _ _) _ _ _; (refine q_loadNC (row := ?_) rfl rfl ?_ ?_ ?_ (hK _ ?_); rotate_left 1; (repeat first | exact .head _ | apply List.Mem.tail); (focus (intro _; simp [cells_iV, iL_length, setL_i, setL_ii, agg_iL]; done)); (focus (intro _; simp [cells_iV, iL_length, setL_i, setL_ii, agg_iL]; done))); clear hK K; simp only [Act.put, List.setIfInBounds_toArray, List.set_cons_succ, List.set_cons_zero, cells_iV, iL_length, setL_i, setL_ii, agg_iL]) | (go_big_quiet_op; (try refine ⟨_, fun _ _ => rfl, ?_⟩); refine hK _ ?_; clear hK K)) | (refine tree_skip ⟨_, H, by repeat first | exact .here | apply Suf.there⟩ rfl rfl ?_; simp only [List.getElem_toArray, List.getElem_cons_succ, List.getElem_cons_zero, Act.put, List.setIfInBounds_toArray, List.set_cons_succ, List.set_cons_zero])) | (guard_target =~ wpTree _ _ _ (Tr.e _ _) _ _ _; (first | (guard_target =~ wpTree _ _ _ (Tr.e 2 _) _ _ _; refine tree_one rfl rfl (fun K hK => ?_); simp only [List.getElem_toArray, List.getElem_cons_succ, List.getElem_cons_zero]; ((guard_target =~ Oper.wp _ (Oper.mk _ (.alloc _) _ _ _ _) _ _ _ _; refine o_alloc (z := ?_) rfl ?_ H rfl (fun w3 b2 he H2 => hK _ _ ⟨_, H2, ?_⟩ ?_); rotate_left 1; (focus (intro _; simp; with_reducible exact rfl))); (guard_target =~ Suf _ _; repeat first | exact .here | apply Suf.there); clear hK K he; clear H; (try clear w2); revert w3; intro w2 H; (try simp [Act.eval, List.getD, cells_iV, iL_length, setL_i, setL_ii, agg_iL] at H); (try simp [Value.cells, setL, cells_iV, iL_length, setL_i, setL_ii, agg_iL] at H)); simp only [Act.put, List.setIfInBounds_toArray, List.set_cons_succ, List.set_cons_zero, cells_iV, iL_length, setL_i, setL_ii, agg_iL]; rename Nat => nb2) | (guard_target =~ wpTree _ _ _ (Tr.e 3 _) _ _ _; refine tree_one rfl rfl (fun K hK => ?_); simp only [List.getElem_toArray, List.getElem_cons_succ, List.getElem_cons_zero]; ((guard_target =~ Oper.wp _ (Oper.mk _ (.alloc _) _ _ _ _) _ _ _ _; refine o_alloc (z := ?_) rfl ?_ H rfl (fun w3 b2 he H2 => hK _ _ ⟨_, H2, ?_⟩ ?_); rotate_left 1; (focus (intro _; simp; with_reducible exact rfl))); (guard_target =~ Suf _ _; repeat first | exact .here | apply Suf.there); clear hK K he; clear H; (try clear w2); revert w3; intro w2 H; (try simp [Act.eval, List.getD, cells_iV, iL_length, setL_i, setL_ii, agg_iL] at H); (try simp [Value.cells, setL, cells_iV, iL_length, setL_i, setL_ii, agg_iL] at H)); simp only [Act.put, List.setIfInBounds_toArray, List.set_cons_succ, List.set_cons_zero, cells_iV, iL_length, setL_i, setL_ii, agg_iL]; rename Nat => nb3))) | (guard_target =~ wpTree _ _ _ (Tr.both _ _) _ _ _; refine tree_both ?_ ?_) | (guard_target =~ wpTree _ _ _ (Tr.e _ _) _ _ _; first | (refine tree_one rfl rfl (fun K hK => ?_); simp only [List.getElem_toArray, List.getElem_cons_succ, List.getElem_cons_zero]; first | ((guard_target =~ Oper.wp _ (Oper.mk _ (.store _ _ _) _ _ _ _) _ _ _ _; refine o_store (l' := ?_) (row := ?_) rfl rfl H rfl ?_ ?_ ?_ ?_ (fun w3 H2 => hK _ _ ⟨_, H2, ?_⟩ ?_); rotate_left 2; (first | exact r0 | exact r1); (focus (intro _; (simp [Act.eval, List.getD, cells_iV, iL_length, setL_i, setL_ii, agg_iL]; done))); (focus (simp [Act.eval, List.getD, cells_iV, iL_length, setL_i, setL_ii, agg_iL]; done)); (exact rfl); (guard_target =~ Suf _ _; repeat first | exact .here | apply Suf.there); clear hK K; clear H; (try clear w2); revert w3; intro w2 H; (try simp [Act.eval, List.getD, cells_iV, iL_length, setL_i, setL_ii, agg_iL] at H); (try simp [Value.cells, setL, cells_iV, iL_length, setL_i, setL_ii, agg_iL] at H)); simp only [Act.put, List.setIfInBounds_toArray, List.set_cons_succ, List.set_cons_zero, cells_iV, iL_length, setL_i, setL_ii, agg_iL]) | go_big_op) | (refine tree_one_skip ⟨_, H, by repeat first | exact .here | apply Suf.there⟩ rfl rfl ?_; simp only [List.getElem_toArray, List.getElem_cons_succ, List.getElem_cons_zero, Act.put, List.setIfInBounds_toArray, List.set_cons_succ, List.set_cons_zero])) | (refine tree_nil ?_; (first | replace H : Own _ _ _ (Res.cells nb3 _ :: _) := H | replace H : Own _ _ _ (Res.cells nb3 _ :: _) := H.front1); (replace H : Own _ _ _ (Res.cells nb2 _ :: _) := H.front1); revert w2; revert nb3; revert nb2; exact key10.out) | (guard_target =~ wpTree _ _ _ Tr.nil _ _ _; refine tree_nil ?_)))
        go_ret
        exact ⟨rfl, H.below⟩
    · obtain ⟨hy1, hx1⟩ := tdiv_large hx hf
      have hE3 : divE x y = 3 := by rw [hE]; unfold errZ; rw [if_neg hf]
      rw [hE3] at h1
      clear hE hE3 hf d0 h0
      subst hy1
      have e1 := eq_self' (-1) hy
      have hsx := fun w => sign_any x hx w
      rw [show signZ x = -1 by unfold signZ; rw [if_pos hx1]] at hsx
      have hof := fun w => of_w (-1) w (by omega) (by omega)
      clear hx1
      go_enter Try.func17, Try.ntmps17
      have tk0 : True := trivial
      have tk1 : True := trivial
      have tk2 : True := trivial
      have tk3 : True := trivial
      have tk4 : True := trivial
      have tk5 : True := trivial
      have tk6 : True := trivial
      go_wp2_with (first
        | (guard_target =~ Code.wp _ (Code.region 5 _ true) _ _ _; refine region_tree0 5 (G := True) (.e 0 (.q 1 (.q 2 (.q 3 (.q 4 (.q 5 (.q 6 (.e 7 (.q 8 (.q 9 (.q 10 (.q 11 (.e 12 (.q 13 (.q 14 (.q 15 .nil)))))))))))))))) (by kernel_rfl) (by intro c a d v w h; cases d <;> exact h) (by kernel_rfl) H ⟨trivial⟩ (fun _ w3 H2 => ?_); (clear H; (try clear w2); revert w3; intro w2 H))
        | (go_at_call 32; (with_reducible refine (awake_any _).mono ?_); rintro e w3 ⟨rfl, hb⟩; replace H := H.ext hb; clear hb; dsimp only; (refine hK _ _ ⟨_, H, by repeat first | exact .here | apply Suf.there⟩ ?_; clear hK K; (try simp only [Act.put, List.setIfInBounds_toArray, List.set_cons_succ, List.set_cons_zero, cells_iV, iL_length, setL_i, setL_ii, agg_iL])))
        | (go_at_call 31; (with_reducible refine (h1 _).mono ?_); rintro e w3 ⟨rfl, hb⟩; replace H := H.ext hb; clear hb; dsimp only; (skip))
        | (go_at_call 44; (with_reducible refine (hof _).mono ?_); rintro e w3 ⟨rfl, hb⟩; replace H := H.ext hb; clear hb; dsimp only; (refine hK _ _ ⟨_, H, by repeat first | exact .here | apply Suf.there⟩ ?_; clear hK K; (try simp only [Act.put, List.setIfInBounds_toArray, List.set_cons_succ, List.set_cons_zero, cells_iV, iL_length, setL_i, setL_ii, agg_iL])))
        | (go_at_call 42; (with_reducible refine (hsx _).mono ?_); rintro e w3 ⟨rfl, hb⟩; replace H := H.ext hb; clear hb; dsimp only; (refine hK _ _ ⟨_, H, by repeat first | exact .here | apply Suf.there⟩ ?_; clear hK K; (try simp only [Act.put, List.setIfInBounds_toArray, List.set_cons_succ, List.set_cons_zero, cells_iV, iL_length, setL_i, setL_ii, agg_iL])))
        | (guard_target =~ wpList _ _ _ (_ :: _) _ _; (first | (guard_target =~ wpList _ _ _ (Oper.mk _ (.load _ _) _ _ _ _ :: _) _ _; refine BigFrame.wpList_want rfl (fun K hK => ?_); (refine o_loadNC (row := ?_) rfl rfl H ?_ ?_ ?_ (hK _ _ ?_); rotate_left 1; (repeat first | exact .head _ | apply List.Mem.tail); (focus (intro _; simp [cells_iV, iL_length, setL_i, setL_ii, agg_iL]; done)); (focus (intro _; simp [cells_iV, iL_length, setL_i, setL_ii, agg_iL]; done))); clear hK K) | (guard_target =~ wpList _ _ _ (Oper.mk _ (.store _ _ _) _ _ _ _ :: _) _ _; refine BigFrame.wpList_want rfl (fun K hK => ?_); refine o_store (l' := ?_) (row := ?_) rfl rfl H rfl ?_ ?_ ?_ ?_ (fun w3 H2 => hK _ _ ?_); rotate_left 2; (first | exact r0 | exact r1); (focus (intro _; (simp [Act.eval, List.getD, cells_iV, iL_length, setL_i, setL_ii, agg_iL]; done))); (focus (simp [Act.eval, List.getD, cells_iV, iL_length, setL_i, setL_ii, agg_iL]; done)); (exact rfl); clear hK K; clear H; (try clear w2); revert w3; intro w2 H; (try simp [Act.eval, List.getD, cells_iV, iL_length, setL_i, setL_ii, agg_iL] at H); (try simp [Value.cells, setL, cells_iV, iL_length, setL_i, setL_ii, agg_iL] at H)) | ((first | (guard_target =~ wpList _ _ _ (Oper.mk _ (.alloc _) _ _ _ _ :: _) _ _; refine BigFrame.wpList_want rfl (fun K hK => ?_); refine o_alloc (z := ?_) rfl ?_ H rfl (fun w3 b2 he H2 => hK _ _ ?_); rotate_left 1; (focus (intro _; simp; with_reducible exact rfl))) | (guard_target =~ wpList _ _ _ (Oper.mk _ (.box _ _) _ _ _ _ :: _) _ _; refine BigFrame.wpList_want rfl (fun K hK => ?_); refine o_box rfl H rfl (fun w3 b2 he H2 => hK _ _ ?_))); clear hK K he; clear H; (try clear w2); revert w3; intro w2 H; (try simp [Act.eval, List.getD, cells_iV, iL_length, setL_i, setL_ii, agg_iL] at H); (try simp [Value.cells, setL, cells_iV, iL_length, setL_i, setL_ii, agg_iL] at H); (first | (clear tk0; rename Nat => c1) | (clear tk1; rename Nat => c2) | (clear tk2; rename Nat => c3) | (clear tk3; rename Nat => c4)))); simp only [Act.put, List.setIfInBounds_toArray, List.set_cons_succ, List.set_cons_zero, cells_iV, iL_length, setL_i, setL_ii, agg_iL])
        | (guard_target =~ wpTree _ _ _ _ _ _ _; first | (guard_target =~ wpTree _ _ _ (Tr.q _ _) _ _ _; first | (refine tree_quiet ⟨_, H, by repeat first | exact .here | apply Suf.there⟩ rfl rfl rfl (fun K hK => ?_); simp only [List.getElem_toArray, List.getElem_cons_succ, List.getElem_cons_zero]; first | (guard_target =~ Oper.quiet _ (Oper.mk _ (.load _ _) _ _ _ _) _ _ _; (refine q_loadNC (row := ?_) rfl rfl ?_ ?_ ?_ (hK _ ?_); rotate_left 1; (repeat first | exact .head _ | apply List.Mem.tail); (focus (intro _; simp [cells_iV, iL_length, setL_i, setL_ii, agg_iL]; done)); (focus (intro _; simp [cells_iV, iL_length, setL_i, setL_ii, agg_iL]; done))); clear hK K; simp only [Act.put, List.setIfInBounds_toArray, List.set_cons_succ, List.set_cons_zero, cells_iV, iL_length, setL_i, setL_ii, agg_iL]) | (go_big_quiet_op; (try refine ⟨_, fun _ _ => rfl, ?_⟩); refine hK _ ?_; clear hK K)) | (refine tree_skip ⟨_, H, by repeat first | exact .here | apply Suf.there⟩ rfl rfl ?_; simp only [List.getElem_toArray, List.getElem_cons_succ, List.getElem_cons_zero, Act.put, List.setIfInBounds_toArray, List.set_cons_succ, List.set_cons_zero])) | (guard_target =~ wpTree _ _ _ (Tr.both _ _) _ _ _; refine tree_both ?_ ?_) | (guard_target =~ wpTree _ _ _ (Tr.e _ _) _ _ _; first | (refine tree_one rfl rfl (fun K hK => ?_); simp only [List.getElem_toArray, List.getElem_cons_succ, List.getElem_cons_zero]; first | ((first | fail); simp only [Act.put, List.setIfInBounds_toArray, List.set_cons_succ, List.set_cons_zero, cells_iV, iL_length, setL_i, setL_ii, agg_iL]) | go_big_op) | (refine tree_one_skip ⟨_, H, by repeat first | exact .here | apply Suf.there⟩ rfl rfl ?_; simp only [List.getElem_toArray, List.getElem_cons_succ, List.getElem_cons_zero, Act.put, List.setIfInBounds_toArray, List.set_cons_succ, List.set_cons_zero])) | (guard_target =~ wpTree _ _ _ Tr.nil _ _ _; refine tree_nil ?_)))
      go_ret
      exact ⟨rfl, H.below⟩
end Go.Proofs.Ytdgpdafkngoegaa
