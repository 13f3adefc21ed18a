/-
  The statements of layer 3: signs and order, and which numbers are int64.
-/
import Derived.Test.YtdgpdafkngoegaaLaw03a
import Derived.Test.YtdgpdafkngoegaaRef03e
import Derived.Test.YtdgpdafkngoegaaRef03m
import Derived.Test.YtdgpdafkngoegaaWide2
import Derived.Test.YtdgpdafkngoegaaWide4
import Derived.Test.YtdgpdafkngoegaaWide5
import Derived.Test.YtdgpdafkngoegaaFit
import Derived.Test.YtdgpdafkngoegaaOwn5
namespace Go.Proofs.Ytdgpdafkngoegaa
set_option linter.unusedVariables false
set_option linter.unusedSimpArgs false
open Go.RowKit

theorem cmp_zero (x y : Int) : decide (cmpZ x y = 0) = decide (x = y) := by
  unfold cmpZ
  rcases Int.lt_trichotomy x y with h | h | h
  · rw [if_pos h]; simp; omega
  · rw [if_neg (by omega), if_neg (by omega)]; simpa using h
  · rw [if_neg (by omega), if_pos h]; simp; omega
theorem digits_zero' {l : List Nat} (g : CnI l 0) : ((l.length : Int) == 0) = true ∧ (l.length == 0) = true ∧ decide (l = []) = true := by
  rw [g.nil_iff.2 rfl]; exact ⟨rfl, rfl, rfl⟩
theorem digits_some' {x : Int} (hx : x ≠ 0) {l : List Nat} (g : CnI l x) : ((l.length : Int) == 0) = false ∧ (l.length == 0) = false ∧ decide (l = []) = false := by
  cases l with
  | nil => exact absurd (g.nil_iff.1 rfl) hx
  | cons d m => refine ⟨?_, by simp, by simp⟩; simp; omega
set_option maxRecDepth 100000 in
set_option maxHeartbeats 16000000 in
theorem law_WideOrders (x y n : Int) (w : World) (hx : R256 x) (hy : R256 y) (h1 : -9223372036854775808 ≤ n) (h2 : n ≤ 9223372036854775807) : Calls Try.prog 11 #[iV x, iV y, .int .i64 n] w fun e w' => e = .returned (.bool true) ∧ Below w.heap.size w w' := by
  have H := Own.start w
  have hF : ∀ k : Nat, (fun _ : Nat => False) k → k < w.heap.size := fun k h => h.elim
  have g1 := guard_iVV
  have hn : R256 n := by unfold R256; omega
  have fn : F64 n := ⟨h1, h2⟩
  have hof := fun w => of_w n w h1 h2
  have hSn := fun w => small_any n hn w
  rw [if_pos fn, show decide (F64 n) = true by simpa using fn] at hSn
  have hSx := fun w => small_any x hx w
  have hsx := fun w => sign_any x hx w
  have hC := fun w => Cmp_any x y hx hy w
  have hR := fun F w hF A1 A2 c1 c2 a b ha hb ga gb => refCmp_any F w hF A1 A2 c1 c2 a b x y ha hb ga gb (fit1000 (wide_self hx) ga) (fit1000 (wide_self hy) gb)
  rw [show cmpR x y = cmpZ x y from rfl] at hR
  have hFx := fun F w hF => refFrom_any F w hF x hx
  have hFy := fun F w hF => refFrom_any F w hF y hy
  have eqx := eq_iV x y hx hy
  have cz := cmp_zero x y
  obtain ⟨c, hc⟩ : ∃ c, cmpZ x y = c := ⟨_, rfl⟩
  obtain ⟨v, hv⟩ : ∃ v, decide (x = y) = v := ⟨_, rfl⟩
  rw [hc, hv] at cz
  rw [hc] at hC hR
  rw [hv] at eqx
  clear hc hv fn
  have rz : R256 0 := by unfold R256; omega
  have fx : ∃ s v, (∀ w : World, Calls Try.prog 43 #[iV x] w fun e w' => e = .returned (.tuple #[.int .i64 s, .bool v]) ∧ Below w.heap.size w w') ∧
      (∀ w : World, Calls Try.prog 44 #[.int .i64 s] w fun e w' => e = .returned (iV s) ∧ Below w.heap.size w w') ∧
      (∀ w : World, (binOp .eql 24 (iV s) (iV x)).run Try.prog w = .ok (.bool v) w) ∧ ((v = true ∧ s = x) ∨ (v = false ∧ s = 0 ∧ x ≠ 0)) := by
    by_cases h : F64 x
    · rw [if_pos h, show decide (F64 x) = true by simpa using h] at hSx
      exact ⟨x, true, hSx, fun w => of_w x w h.1 h.2, fun w => by rw [eq_iV x x hx hx]; simp, .inl ⟨rfl, rfl⟩⟩
    · rw [if_neg h, show decide (F64 x) = false by simpa using h] at hSx
      have h0 : x ≠ 0 := fun h0 => h (by subst h0; unfold F64; omega)
      exact ⟨0, false, hSx, fun w => of_w 0 w (by omega) (by omega), fun w => by rw [eq_iV 0 x rz hx, show decide ((0 : Int) = x) = false by simpa using fun h => h0 h.symm], .inr ⟨rfl, rfl, h0⟩⟩
  clear hSx
  obtain ⟨s, v2, hSx, hox, es, cs⟩ := fx
  have hS : (signZ x = -1 ∧ decide (x < 0) = true ∧ x ≠ 0) ∨ (signZ x = 0 ∧ x = 0) ∨ (signZ x = 1 ∧ decide (x < 0) = false ∧ x ≠ 0) := by
    unfold signZ
    rcases Int.lt_trichotomy x 0 with h | h | h
    · exact .inl ⟨by rw [if_pos h], by simpa using h, by omega⟩
    · exact .inr (.inl ⟨by rw [if_neg (by omega), if_pos h], h⟩)
    · exact .inr (.inr ⟨by rw [if_neg (by omega), if_neg (by omega)], by simp; omega, by omega⟩)
  unfold RetN at hFx
  have cz2 : (c == 0) = v := cz
  clear cz
  rcases hS with ⟨e1, e2, e3⟩ | ⟨e1, rfl⟩ | ⟨e1, e2, e3⟩ <;> rcases cs with ⟨rfl, k2⟩ | ⟨rfl, rfl, e3⟩
  all_goals first
    | exact absurd rfl e3
    | skip
  all_goals
    rw [e1] at hsx
    (first | rw [e2] at hFx hR | rw [show decide ((0 : Int) < 0) = false from rfl] at hFx hR)
    clear e1
    (try clear e2)
    (try clear k2)
    go_enter Try.func11, Try.ntmps11
    have tk0 : True := trivial
    have tk1 : True := trivial
    have tk2 : True := trivial
    have tk3 : True := trivial
    have tk4 : True := trivial
    have tk5 : True := trivial
    have tk6 : True := trivial
    go_wp2_with (first
      | (guard_target =~ Code.wp _ (Code.region 2 _ true) _ _ _; refine region_tree0 2 (G := True) (.q 0 (.q 1 (.e 2 (.e 3 (.q 4 .nil))))) (by kernel_rfl) (by intro c a d v w h; cases d <;> exact h) (by kernel_rfl) H ⟨trivial⟩ (fun _ w3 H2 => ?_); (clear H; (try clear w2); revert w3; intro w2 H))
      | (guard_target =~ Code.wp _ (Code.region 10 _ true) _ _ _; refine region_tree0 10 (G := True) (.e 0 (.q 1 (.q 2 (.q 3 (.q 5 (.e 4 (.q 6 (.q 7 (.q 8 (.q 9 (.q 10 (.q 11 (.q 12 (.q 13 (.q 14 (.q 15 (.q 16 (.q 17 (.q 19 (.e 18 (.q 20 (.q 21 (.q 22 (.q 23 (.q 24 (.q 26 (.e 25 (.q 27 (.q 28 (.q 29 (.q 30 (.q 31 (.q 32 (.q 33 (.q 34 (.q 35 (.q 36 (.q 37 (.q 38 (.q 39 (.q 40 (.q 41 (.q 42 (.q 43 (.q 44 (.q 45 .nil)))))))))))))))))))))))))))))))))))))))))))))) (by kernel_rfl) (by intro c a d v w h; cases d <;> exact h) (by kernel_rfl) H ⟨trivial⟩ (fun _ w3 H2 => ?_); (clear H; (try clear w2); revert w3; intro w2 H))
      | (go_at_call 32; (with_reducible refine (awake_any _).mono ?_); rintro e w3 ⟨rfl, hb⟩; replace H := H.ext hb; clear hb; dsimp only; (refine hK _ _ ⟨_, H, by repeat first | exact .here | apply Suf.there⟩ ?_; clear hK K; (try simp only [Act.put, List.setIfInBounds_toArray, List.set_cons_succ, List.set_cons_zero, cells_iV, iL_length, setL_i, setL_ii, agg_iL])))
      | (go_at_call 34; (with_reducible refine (hFx (FW (fun _ => False) _) _ (H.fw_lt rfl hF)).mono ?_); rintro e w3 ⟨A5, k5, l5, rfl, hb, s5, g5, q5, p5⟩; replace H := H.ext hb; clear hb; obtain ⟨b5, o5, H4, f5⟩ := H.addSl s5; clear H s5; have H := H4; clear H4; (first | (obtain ⟨z5, y5, x5⟩ := digits_zero' g5) | (obtain ⟨z5, y5, x5⟩ := digits_some' e3 g5)); dsimp only; (skip))
      | (go_at_call 34; (with_reducible refine (hFy (FW (fun _ => False) _) _ (H.fw_lt rfl hF)).mono ?_); rintro e w3 ⟨A6, k6, l6, rfl, hb, s6, g6, q6, p6⟩; replace H := H.ext hb; clear hb; obtain ⟨b6, o6, H4, f6⟩ := H.addSl s6; clear H s6; have H := H4; clear H4; dsimp only; (refine hK _ _ ⟨_, H, by repeat first | exact .here | apply Suf.there⟩ ?_; clear hK K; (try simp only [Act.put, List.setIfInBounds_toArray, List.set_cons_succ, List.set_cons_zero, cells_iV, iL_length, setL_i, setL_ii, agg_iL])))
      | (go_at_call 54; (with_reducible refine (hR (FW (fun _ => False) _) _ (H.fw_lt rfl hF) _ _ _ _ l5 l6 (by exact H.giveRd m2 f5) (by exact H.giveRd m0 f6) g5 g6).mono ?_); rintro e w3 ⟨rfl, hb⟩; replace H := H.ext hb; clear hb; dsimp only; (refine hK _ _ ⟨_, H, by repeat first | exact .here | apply Suf.there⟩ ?_; clear hK K; (try simp only [Act.put, List.setIfInBounds_toArray, List.set_cons_succ, List.set_cons_zero, cells_iV, iL_length, setL_i, setL_ii, agg_iL])))
      | (go_at_call 43; (with_reducible refine (hSx _).mono ?_); rintro e w3 ⟨rfl, hb⟩; replace H := H.ext hb; clear hb; dsimp only; (skip))
      | (go_at_call 43; (with_reducible refine (hSn _).mono ?_); rintro e w3 ⟨rfl, hb⟩; replace H := H.ext hb; clear hb; dsimp only; (skip))
      | (go_at_call 44; (with_reducible refine (hof _).mono ?_); rintro e w3 ⟨rfl, hb⟩; replace H := H.ext hb; clear hb; dsimp only; (skip))
      | (go_at_call 44; (with_reducible refine (hox _).mono ?_); rintro e w3 ⟨rfl, hb⟩; replace H := H.ext hb; clear hb; dsimp only; (refine hK _ _ ⟨_, H, by repeat first | exact .here | apply Suf.there⟩ ?_; clear hK K; (try simp only [Act.put, List.setIfInBounds_toArray, List.set_cons_succ, List.set_cons_zero, cells_iV, iL_length, setL_i, setL_ii, agg_iL])))
      | (go_at_call 55; (with_reducible refine (hC _).mono ?_); rintro e w3 ⟨rfl, hb⟩; replace H := H.ext hb; clear hb; dsimp only; (refine hK _ _ ⟨_, H, by repeat first | exact .here | apply Suf.there⟩ ?_; clear hK K; (try simp only [Act.put, List.setIfInBounds_toArray, List.set_cons_succ, List.set_cons_zero, cells_iV, iL_length, setL_i, setL_ii, agg_iL])))
      | (go_at_call 42; (with_reducible refine (hsx _).mono ?_); rintro e w3 ⟨rfl, hb⟩; replace H := H.ext hb; clear hb; dsimp only; (refine hK _ _ ⟨_, H, by repeat first | exact .here | apply Suf.there⟩ ?_; clear hK K; (try simp only [Act.put, List.setIfInBounds_toArray, List.set_cons_succ, List.set_cons_zero, cells_iV, iL_length, setL_i, setL_ii, agg_iL])))
      | (guard_target =~ wpList _ _ _ (_ :: _) _ _; (first | (guard_target =~ wpList _ _ _ (Oper.mk _ (.load _ _) _ _ _ _ :: _) _ _; refine BigFrame.wpList_want rfl (fun K hK => ?_); (first | (refine o_loadC (v := ?_) (row := ?_) rfl rfl H ?_ ?_ ?_ (hK _ _ ?_); rotate_left 2; (repeat first | exact .head _ | apply List.Mem.tail); (exact rfl); (focus (intro _; simp [cells_iV, iL_length, setL_i, setL_ii, agg_iL]; done))) | (refine o_loadNC (row := ?_) rfl rfl H ?_ ?_ ?_ (hK _ _ ?_); rotate_left 1; (repeat first | exact .head _ | apply List.Mem.tail); (focus (intro _; simp [cells_iV, iL_length, setL_i, setL_ii, agg_iL]; done)); (focus (intro _; simp [cells_iV, iL_length, setL_i, setL_ii, agg_iL]; done)))); clear hK K) | (guard_target =~ wpList _ _ _ (Oper.mk _ (.store _ _ _) _ _ _ _ :: _) _ _; refine BigFrame.wpList_want rfl (fun K hK => ?_); refine o_store (l' := ?_) (row := ?_) rfl rfl H rfl ?_ ?_ ?_ ?_ (fun w3 H2 => hK _ _ ?_); rotate_left 2; (exact r0); (focus (intro _; (simp [Act.eval, Value.cells, List.getD, cells_iV, iL_length, setL_i, setL_ii, agg_iL]; done))); (focus (simp [Act.eval, Value.cells, List.getD, cells_iV, iL_length, setL_i, setL_ii, agg_iL]; done)); (exact rfl); clear hK K; clear H; (try clear w2); revert w3; intro w2 H; (try simp [Act.eval, List.getD, cells_iV, iL_length, setL_i, setL_ii, agg_iL] at H); (try simp [Value.cells, setL, cells_iV, iL_length, setL_i, setL_ii, agg_iL] at H)) | ((first | (guard_target =~ wpList _ _ _ (Oper.mk _ (.alloc _) _ _ _ _ :: _) _ _; refine BigFrame.wpList_want rfl (fun K hK => ?_); refine o_alloc (z := ?_) rfl ?_ H rfl (fun w3 b2 he H2 => hK _ _ ?_); rotate_left 1; (focus (intro _; simp; with_reducible exact rfl))) | (guard_target =~ wpList _ _ _ (Oper.mk _ (.box _ _) _ _ _ _ :: _) _ _; refine BigFrame.wpList_want rfl (fun K hK => ?_); refine o_box rfl H rfl (fun w3 b2 he H2 => hK _ _ ?_))); clear hK K he; clear H; (try clear w2); revert w3; intro w2 H; (try simp [Act.eval, List.getD, cells_iV, iL_length, setL_i, setL_ii, agg_iL] at H); (try simp [Value.cells, setL, cells_iV, iL_length, setL_i, setL_ii, agg_iL] at H); (first | (clear tk0; rename Nat => c11) | (clear tk1; rename Nat => c12) | (clear tk2; rename Nat => c13)))); simp only [Act.put, List.setIfInBounds_toArray, List.set_cons_succ, List.set_cons_zero, cells_iV, iL_length, setL_i, setL_ii, agg_iL])
      | (guard_target =~ wpTree _ _ _ _ _ _ _; first | (guard_target =~ wpTree _ _ _ (Tr.q _ _) _ _ _; first | (refine tree_quiet ⟨_, H, by repeat first | exact .here | apply Suf.there⟩ rfl rfl rfl (fun K hK => ?_); simp only [List.getElem_toArray, List.getElem_cons_succ, List.getElem_cons_zero]; first | (guard_target =~ Oper.quiet _ (Oper.mk _ (.load _ _) _ _ _ _) _ _ _; (refine q_loadNC (row := ?_) rfl rfl ?_ ?_ ?_ (hK _ ?_); rotate_left 1; (repeat first | exact .head _ | apply List.Mem.tail); (focus (intro _; simp [cells_iV, iL_length, setL_i, setL_ii, agg_iL]; done)); (focus (intro _; simp [cells_iV, iL_length, setL_i, setL_ii, agg_iL]; done))); clear hK K; simp only [Act.put, List.setIfInBounds_toArray, List.set_cons_succ, List.set_cons_zero, cells_iV, iL_length, setL_i, setL_ii, agg_iL]) | (go_big_quiet_op; (try refine ⟨_, fun _ _ => rfl, ?_⟩); refine hK _ ?_; clear hK K)) | (refine tree_skip ⟨_, H, by repeat first | exact .here | apply Suf.there⟩ rfl rfl ?_; simp only [List.getElem_toArray, List.getElem_cons_succ, List.getElem_cons_zero, Act.put, List.setIfInBounds_toArray, List.set_cons_succ, List.set_cons_zero])) | (guard_target =~ wpTree _ _ _ (Tr.both _ _) _ _ _; refine tree_both ?_ ?_) | (guard_target =~ wpTree _ _ _ (Tr.e _ _) _ _ _; first | (refine tree_one rfl rfl (fun K hK => ?_); simp only [List.getElem_toArray, List.getElem_cons_succ, List.getElem_cons_zero]; first | ((first | fail); simp only [Act.put, List.setIfInBounds_toArray, List.set_cons_succ, List.set_cons_zero, cells_iV, iL_length, setL_i, setL_ii, agg_iL]) | go_big_op) | (refine tree_one_skip ⟨_, H, by repeat first | exact .here | apply Suf.there⟩ rfl rfl ?_; simp only [List.getElem_toArray, List.getElem_cons_succ, List.getElem_cons_zero, Act.put, List.setIfInBounds_toArray, List.set_cons_succ, List.set_cons_zero])) | (guard_target =~ wpTree _ _ _ Tr.nil _ _ _; refine tree_nil ?_)))
    go_ret
    exact ⟨rfl, H.below⟩
end Go.Proofs.Ytdgpdafkngoegaa
