/-
  The walk of ratio.Make.
-/
import Derived.Test.YtmmieilogpmocaaRat1
import Derived.Test.YtmmieilogpmocaaWide12
import Derived.Test.YtmmieilogpmocaaWide4
import Derived.Test.YtmmieilogpmocaaFit
namespace Go.Proofs.Ytmmieilogpmocaa
set_option linter.unusedVariables false
set_option linter.unusedSimpArgs false
open Go.RowKit

/-- A fraction of two numbers, reduced: its numerator, its denominator, the error. -/
def mkN (n d : Int) : Int := if d < 0 then -(n.tdiv (gcdZ n d)) else n.tdiv (gcdZ n d)
def mkD (n d : Int) : Int := if d < 0 then -(d.tdiv (gcdZ n d)) else d.tdiv (gcdZ n d)
def mkE (n d : Int) : Int := if d = 0 then 4 else if R256 (gcdZ n d) ∧ R256 (mkN n d) ∧ R256 (mkD n d) then 0 else 3
def mkV (n d : Int) : Value := if mkE n d = 0 then rV (mkN n d) (mkD n d) else rV 0 0
theorem tdiv_fits {x g : Int} (hx : R256 x) (hg : 0 < g) : R256 (x.tdiv g) := by
  have h2 : (x.tdiv g).natAbs ≤ x.natAbs := by rw [Int.natAbs_tdiv]; exact Nat.div_le_self _ _
  unfold R256 at *
  rcases Int.lt_trichotomy x 0 with h | h | h
  · have h3 : x.tdiv g ≤ 0 := by
      have := Int.tdiv_nonneg (a := -x) (b := g) (by omega) (by omega)
      rw [Int.neg_tdiv] at this
      omega
    omega
  · subst h; rw [Int.zero_tdiv]; omega
  · have := Int.tdiv_nonneg (a := x) (b := g) (by omega) (by omega)
    omega
theorem divQ_fits {x g : Int} (hx : R256 x) (hg : 0 < g) : divQ x g = x.tdiv g := by
  have h := tdiv_fits hx hg
  unfold divQ divE errZ
  rw [if_neg (by omega : ¬ g = 0), if_pos h, if_pos rfl]
theorem gcd_pos {n d : Int} (hd : d ≠ 0) : 0 < gcdZ n d := by
  unfold gcdZ
  have := Int.gcd_pos_of_ne_zero_right n hd
  omega
theorem sign_tdiv {n d : Int} (hd : d ≠ 0) : signZ (d.tdiv (gcdZ n d)) = signZ d := by
  have hg := gcd_pos (n := n) hd
  have hm : d.tdiv (gcdZ n d) * gcdZ n d = d := Int.tdiv_mul_cancel (Int.gcd_dvd_right n d)
  generalize d.tdiv (gcdZ n d) = q at *
  generalize gcdZ n d = g at *
  unfold signZ
  rcases Int.lt_trichotomy q 0 with h | h | h
  · have h1 : q * g < 0 := Int.mul_neg_of_neg_of_pos h hg
    rw [if_pos h, if_pos (by omega)]
  · subst h; rw [Int.zero_mul] at hm; omega
  · have h1 : 0 < q * g := Int.mul_pos h hg
    rw [if_neg (by omega), if_neg (by omega), if_neg (by omega), if_neg (by omega)]
set_option maxRecDepth 100000 in
set_option maxHeartbeats 8000000 in
theorem Make_any (n d : Int) (hn : R256 n) (hd : R256 d) (w : World) :
    Calls Try.prog 15 #[iV n, iV d] w fun e w' => e = .returned (.tuple #[mkV n d, .int .i64 (mkE n d)]) ∧ Below w.heap.size w w' := by
  have H := Own.start w
  have hq := eq_iV d 0 hd (by unfold R256; omega)
  rw [iV_zero] at hq
  have g1 := guard_iV
  have hg := fun w => Gcd_any n d hn hd w
  by_cases h0 : d = 0
  · have hE : mkE n d = 4 := by unfold mkE; rw [if_pos h0]
    have hV : mkV n d = rV 0 0 := by unfold mkV; rw [hE]; rfl
    rw [hE, hV]
    rw [show decide (d = 0) = true by simpa using h0] at hq
    clear hE hV h0
    go_enter Try.func15, Try.ntmps15
    have tk0 : True := trivial
    have tk1 : True := trivial
    have tk2 : True := trivial
    have tk3 : True := trivial
    go_wp2_with (guard_target =~ wpList _ _ _ (_ :: _) _ _; (first | (guard_target =~ wpList _ _ _ (Oper.mk _ (.load _ _) _ _ _ _ :: _) _ _; refine BigFrame.wpList_want rfl (fun K hK => ?_); (refine o_loadNC (row := ?_) rfl rfl H ?_ ?_ ?_ (hK _ _ ?_); rotate_left 1; (repeat first | exact .head _ | apply List.Mem.tail); (focus (intro _; simp [cells_iV, iL_length, setL_i, setL_ii, agg_iL, cells_rV, rL_length, setL_r, setL_rr, agg_rL]; done)); (focus (intro _; simp [cells_iV, iL_length, setL_i, setL_ii, agg_iL, cells_rV, rL_length, setL_r, setL_rr, agg_rL]; done))); clear hK K) | (guard_target =~ wpList _ _ _ (Oper.mk _ (.build _ _) _ _ _ _ :: _) _ _; refine BigFrame.wpList_want rfl (fun K hK => ?_); (refine o_build (v := ?_) (ps := ?_) rfl ?_ ?_ (hK _ _ ?_); rotate_left 2; (focus (simp [Act.eval]; with_reducible exact rfl)); (focus (intro w4; with_reducible exact build_r0 w4))); clear hK K) | (guard_target =~ wpList _ _ _ (Oper.mk _ (.store _ _ _) _ _ _ _ :: _) _ _; refine BigFrame.wpList_want rfl (fun K hK => ?_); refine o_store (l' := ?_) (row := ?_) rfl rfl H rfl ?_ ?_ ?_ ?_ (fun w3 H2 => hK _ _ ?_); rotate_left 2; (exact r0); (focus (intro _; (simp [Act.eval, List.getD, cells_iV, iL_length, setL_i, setL_ii, agg_iL, cells_rV, rL_length, setL_r, setL_rr, agg_rL]; done))); (focus (simp [Act.eval, List.getD, cells_iV, iL_length, setL_i, setL_ii, agg_iL, cells_rV, rL_length, setL_r, setL_rr, agg_rL]; done)); (exact rfl); clear hK K; clear H; (try clear w2); revert w3; intro w2 H; (try simp [Act.eval, List.getD, cells_iV, iL_length, setL_i, setL_ii, agg_iL, cells_rV, rL_length, setL_r, setL_rr, agg_rL] at H); (try simp [Value.cells, setL, cells_iV, iL_length, setL_i, setL_ii, agg_iL, cells_rV, rL_length, setL_r, setL_rr, agg_rL] at H)) | ((first | (guard_target =~ wpList _ _ _ (Oper.mk _ (.alloc _) _ _ _ _ :: _) _ _; refine BigFrame.wpList_want rfl (fun K hK => ?_); refine o_alloc (z := ?_) rfl ?_ H rfl (fun w3 b2 he H2 => hK _ _ ?_); rotate_left 1; (focus (intro _; simp; with_reducible exact rfl))) | (guard_target =~ wpList _ _ _ (Oper.mk _ (.box _ _) _ _ _ _ :: _) _ _; refine BigFrame.wpList_want rfl (fun K hK => ?_); refine o_box rfl H rfl (fun w3 b2 he H2 => hK _ _ ?_))); clear hK K he; clear H; (try clear w2); revert w3; intro w2 H; (try simp [Act.eval, List.getD, cells_iV, iL_length, setL_i, setL_ii, agg_iL, cells_rV, rL_length, setL_r, setL_rr, agg_rL] at H); (try simp [Value.cells, setL, cells_iV, iL_length, setL_i, setL_ii, agg_iL, cells_rV, rL_length, setL_r, setL_rr, agg_rL] at H); (first | (clear tk0; rename Nat => c1) | (clear tk1; rename Nat => c2) | (clear tk2; rename Nat => c3)))); simp only [Act.put, List.setIfInBounds_toArray, List.set_cons_succ, List.set_cons_zero, cells_iV, iL_length, setL_i, setL_ii, agg_iL, cells_rV, rL_length, setL_r, setL_rr, agg_rL])
    have hr := H.loadVarN (P := Try.prog) (ty := 26) m0 (by simp) (by simp [rL_length])
    exact bodyPost_ret (v := .tuple #[rV 0 0, .int .i64 4]) (by simp [results, Try.results15, asAddr, hr, agg_rL]) rfl ⟨rfl, H.below⟩
  · rw [show decide (d = 0) = false by simpa using h0] at hq
    rcases fe (gcdZ n d) with ⟨rg, f1, f2⟩ | ⟨rg, f1, f2⟩
    · have gp := gcd_pos (n := n) h0
      have d1 := fun w => Div_any n (gcdZ n d) hn rg w
      have d2 := fun w => Div_any d (gcdZ n d) hd rg w
      have rn := tdiv_fits hn gp
      have rd := tdiv_fits hd gp
      have hs := fun w => sign_any _ rd w
      have hNn := fun w => neg_any _ rn w
      have hNd := fun w => neg_any _ rd w
      rw [divQ_fits hn gp] at d1
      rw [divQ_fits hd gp] at d2
      rw [sign_tdiv h0] at hs
      rw [f1, f2] at hg
      have hE : mkE n d = if R256 (mkN n d) ∧ R256 (mkD n d) then 0 else 3 := by
        unfold mkE
        rw [if_neg h0]
        simp only [rg, true_and]
      rcases Int.lt_trichotomy d 0 with h | h | h
      · have eN : mkN n d = -(n.tdiv (gcdZ n d)) := by unfold mkN; rw [if_pos h]
        have eD : mkD n d = -(d.tdiv (gcdZ n d)) := by unfold mkD; rw [if_pos h]
        have eV : mkV n d = if mkE n d = 0 then rV (-(n.tdiv (gcdZ n d))) (-(d.tdiv (gcdZ n d))) else rV 0 0 := by unfold mkV; rw [eN, eD]
        rw [eN, eD] at hE
        rw [show signZ d = -1 by unfold signZ; rw [if_pos h]] at hs
        rw [eV]
        clear eV eN eD gp h rn rd f1 f2 rg
        generalize gcdZ n d = g at *
        generalize n.tdiv g = p at *
        generalize d.tdiv g = q at *
        rcases fe (-p) with ⟨r1, k1, j1⟩ | ⟨r1, k1, j1⟩ <;> rcases fe (-q) with ⟨r2, k2, j2⟩ | ⟨r2, k2, j2⟩
        all_goals
          rw [k1, j1] at hNn
          rw [k2, j2] at hNd
        · rw [if_pos ⟨r1, r2⟩] at hE
          rw [hE, if_pos rfl]
          clear hE h0 r1 r2 k1 k2 j1 j2
          go_enter Try.func15, Try.ntmps15
          have tk0 : True := trivial
          have tk1 : True := trivial
          have tk2 : True := trivial
          have tk3 : True := trivial
          go_wp2_with (first
            | (go_at_call 52; (with_reducible refine (hg _).mono ?_); rintro e w3 ⟨rfl, hb⟩; replace H := H.ext hb; clear hb; dsimp only)
            | (go_at_call 53; (with_reducible refine (d1 _).mono ?_); rintro e w3 ⟨rfl, hb⟩; replace H := H.ext hb; clear hb; dsimp only)
            | (go_at_call 53; (with_reducible refine (d2 _).mono ?_); rintro e w3 ⟨rfl, hb⟩; replace H := H.ext hb; clear hb; dsimp only)
            | (go_at_call 54; (with_reducible refine (hs _).mono ?_); rintro e w3 ⟨rfl, hb⟩; replace H := H.ext hb; clear hb; dsimp only)
            | (go_at_call 55; (with_reducible refine (hNn _).mono ?_); rintro e w3 ⟨rfl, hb⟩; replace H := H.ext hb; clear hb; dsimp only)
            | (go_at_call 55; (with_reducible refine (hNd _).mono ?_); rintro e w3 ⟨rfl, hb⟩; replace H := H.ext hb; clear hb; dsimp only)
            | (guard_target =~ wpList _ _ _ (_ :: _) _ _; (first | (guard_target =~ wpList _ _ _ (Oper.mk _ (.load _ _) _ _ _ _ :: _) _ _; refine BigFrame.wpList_want rfl (fun K hK => ?_); (refine o_loadNC (row := ?_) rfl rfl H ?_ ?_ ?_ (hK _ _ ?_); rotate_left 1; (repeat first | exact .head _ | apply List.Mem.tail); (focus (intro _; simp [cells_iV, iL_length, setL_i, setL_ii, agg_iL, cells_rV, rL_length, setL_r, setL_rr, agg_rL]; done)); (focus (intro _; simp [cells_iV, iL_length, setL_i, setL_ii, agg_iL, cells_rV, rL_length, setL_r, setL_rr, agg_rL]; done))); clear hK K) | (guard_target =~ wpList _ _ _ (Oper.mk _ (.build _ _) _ _ _ _ :: _) _ _; refine BigFrame.wpList_want rfl (fun K hK => ?_); (refine o_build (v := ?_) (ps := ?_) rfl ?_ ?_ (hK _ _ ?_); rotate_left 2; (focus (simp [Act.eval]; with_reducible exact rfl)); (focus (intro w4; with_reducible exact build_r _ _ w4))); clear hK K) | (guard_target =~ wpList _ _ _ (Oper.mk _ (.store _ _ _) _ _ _ _ :: _) _ _; refine BigFrame.wpList_want rfl (fun K hK => ?_); refine o_store (l' := ?_) (row := ?_) rfl rfl H rfl ?_ ?_ ?_ ?_ (fun w3 H2 => hK _ _ ?_); rotate_left 2; (first | exact r0 | exact r1 | exact r2 | exact r3); (focus (intro _; (simp [Act.eval, List.getD, cells_iV, iL_length, setL_i, setL_ii, agg_iL, cells_rV, rL_length, setL_r, setL_rr, agg_rL]; done))); (focus (simp [Act.eval, List.getD, cells_iV, iL_length, setL_i, setL_ii, agg_iL, cells_rV, rL_length, setL_r, setL_rr, agg_rL]; done)); (exact rfl); clear hK K; clear H; (try clear w2); revert w3; intro w2 H; (try simp [Act.eval, List.getD, cells_iV, iL_length, setL_i, setL_ii, agg_iL, cells_rV, rL_length, setL_r, setL_rr, agg_rL] at H); (try simp [Value.cells, setL, cells_iV, iL_length, setL_i, setL_ii, agg_iL, cells_rV, rL_length, setL_r, setL_rr, agg_rL] at H)) | ((first | (guard_target =~ wpList _ _ _ (Oper.mk _ (.alloc _) _ _ _ _ :: _) _ _; refine BigFrame.wpList_want rfl (fun K hK => ?_); refine o_alloc (z := ?_) rfl ?_ H rfl (fun w3 b2 he H2 => hK _ _ ?_); rotate_left 1; (focus (intro _; simp; with_reducible exact rfl))) | (guard_target =~ wpList _ _ _ (Oper.mk _ (.box _ _) _ _ _ _ :: _) _ _; refine BigFrame.wpList_want rfl (fun K hK => ?_); refine o_box rfl H rfl (fun w3 b2 he H2 => hK _ _ ?_))); clear hK K he; clear H; (try clear w2); revert w3; intro w2 H; (try simp [Act.eval, List.getD, cells_iV, iL_length, setL_i, setL_ii, agg_iL, cells_rV, rL_length, setL_r, setL_rr, agg_rL] at H); (try simp [Value.cells, setL, cells_iV, iL_length, setL_i, setL_ii, agg_iL, cells_rV, rL_length, setL_r, setL_rr, agg_rL] at H); (first | (clear tk0; rename Nat => c1) | (clear tk1; rename Nat => c2) | (clear tk2; rename Nat => c3) | (clear tk3; rename Nat => c4)))); simp only [Act.put, List.setIfInBounds_toArray, List.set_cons_succ, List.set_cons_zero, cells_iV, iL_length, setL_i, setL_ii, agg_iL, cells_rV, rL_length, setL_r, setL_rr, agg_rL]))
          have hr := H.loadVarN (P := Try.prog) (ty := 26) m1 (by simp) (by simp [rL_length])
          exact bodyPost_ret (v := .tuple #[rV (-p) (-q), .int .i64 0]) (by simp [results, Try.results15, asAddr, hr, agg_rL]) rfl ⟨rfl, H.below⟩
        all_goals
          rw [if_neg (by intro hh; first | exact r2 hh.2 | exact r1 hh.1)] at hE
          rw [hE, if_neg (by decide)]
          clear hE h0 r1 r2 k1 k2 j1 j2
          go_enter Try.func15, Try.ntmps15
          have tk0 : True := trivial
          have tk1 : True := trivial
          have tk2 : True := trivial
          have tk3 : True := trivial
          go_wp2_with (first
            | (go_at_call 52; (with_reducible refine (hg _).mono ?_); rintro e w3 ⟨rfl, hb⟩; replace H := H.ext hb; clear hb; dsimp only)
            | (go_at_call 53; (with_reducible refine (d1 _).mono ?_); rintro e w3 ⟨rfl, hb⟩; replace H := H.ext hb; clear hb; dsimp only)
            | (go_at_call 53; (with_reducible refine (d2 _).mono ?_); rintro e w3 ⟨rfl, hb⟩; replace H := H.ext hb; clear hb; dsimp only)
            | (go_at_call 54; (with_reducible refine (hs _).mono ?_); rintro e w3 ⟨rfl, hb⟩; replace H := H.ext hb; clear hb; dsimp only)
            | (go_at_call 55; (with_reducible refine (hNn _).mono ?_); rintro e w3 ⟨rfl, hb⟩; replace H := H.ext hb; clear hb; dsimp only)
            | (go_at_call 55; (with_reducible refine (hNd _).mono ?_); rintro e w3 ⟨rfl, hb⟩; replace H := H.ext hb; clear hb; dsimp only)
            | (guard_target =~ wpList _ _ _ (_ :: _) _ _; (first | (guard_target =~ wpList _ _ _ (Oper.mk _ (.load _ _) _ _ _ _ :: _) _ _; refine BigFrame.wpList_want rfl (fun K hK => ?_); (refine o_loadNC (row := ?_) rfl rfl H ?_ ?_ ?_ (hK _ _ ?_); rotate_left 1; (repeat first | exact .head _ | apply List.Mem.tail); (focus (intro _; simp [cells_iV, iL_length, setL_i, setL_ii, agg_iL, cells_rV, rL_length, setL_r, setL_rr, agg_rL]; done)); (focus (intro _; simp [cells_iV, iL_length, setL_i, setL_ii, agg_iL, cells_rV, rL_length, setL_r, setL_rr, agg_rL]; done))); clear hK K) | (guard_target =~ wpList _ _ _ (Oper.mk _ (.build _ _) _ _ _ _ :: _) _ _; refine BigFrame.wpList_want rfl (fun K hK => ?_); (refine o_build (v := ?_) (ps := ?_) rfl ?_ ?_ (hK _ _ ?_); rotate_left 2; (focus (simp [Act.eval]; with_reducible exact rfl)); (focus (intro w4; with_reducible exact build_r0 w4))); clear hK K) | (guard_target =~ wpList _ _ _ (Oper.mk _ (.store _ _ _) _ _ _ _ :: _) _ _; refine BigFrame.wpList_want rfl (fun K hK => ?_); refine o_store (l' := ?_) (row := ?_) rfl rfl H rfl ?_ ?_ ?_ ?_ (fun w3 H2 => hK _ _ ?_); rotate_left 2; (first | exact r0 | exact r1 | exact r2 | exact r3); (focus (intro _; (simp [Act.eval, List.getD, cells_iV, iL_length, setL_i, setL_ii, agg_iL, cells_rV, rL_length, setL_r, setL_rr, agg_rL]; done))); (focus (simp [Act.eval, List.getD, cells_iV, iL_length, setL_i, setL_ii, agg_iL, cells_rV, rL_length, setL_r, setL_rr, agg_rL]; done)); (exact rfl); clear hK K; clear H; (try clear w2); revert w3; intro w2 H; (try simp [Act.eval, List.getD, cells_iV, iL_length, setL_i, setL_ii, agg_iL, cells_rV, rL_length, setL_r, setL_rr, agg_rL] at H); (try simp [Value.cells, setL, cells_iV, iL_length, setL_i, setL_ii, agg_iL, cells_rV, rL_length, setL_r, setL_rr, agg_rL] at H)) | ((first | (guard_target =~ wpList _ _ _ (Oper.mk _ (.alloc _) _ _ _ _ :: _) _ _; refine BigFrame.wpList_want rfl (fun K hK => ?_); refine o_alloc (z := ?_) rfl ?_ H rfl (fun w3 b2 he H2 => hK _ _ ?_); rotate_left 1; (focus (intro _; simp; with_reducible exact rfl))) | (guard_target =~ wpList _ _ _ (Oper.mk _ (.box _ _) _ _ _ _ :: _) _ _; refine BigFrame.wpList_want rfl (fun K hK => ?_); refine o_box rfl H rfl (fun w3 b2 he H2 => hK _ _ ?_))); clear hK K he; clear H; (try clear w2); revert w3; intro w2 H; (try simp [Act.eval, List.getD, cells_iV, iL_length, setL_i, setL_ii, agg_iL, cells_rV, rL_length, setL_r, setL_rr, agg_rL] at H); (try simp [Value.cells, setL, cells_iV, iL_length, setL_i, setL_ii, agg_iL, cells_rV, rL_length, setL_r, setL_rr, agg_rL] at H); (first | (clear tk0; rename Nat => c1) | (clear tk1; rename Nat => c2) | (clear tk2; rename Nat => c3) | (clear tk3; rename Nat => c4)))); simp only [Act.put, List.setIfInBounds_toArray, List.set_cons_succ, List.set_cons_zero, cells_iV, iL_length, setL_i, setL_ii, agg_iL, cells_rV, rL_length, setL_r, setL_rr, agg_rL]))
          have hr := H.loadVarN (P := Try.prog) (ty := 26) m1 (by simp) (by simp [rL_length])
          exact bodyPost_ret (v := .tuple #[rV 0 0, .int .i64 3]) (by simp [results, Try.results15, asAddr, hr, agg_rL]) rfl ⟨rfl, H.below⟩
      · exact absurd h h0
      · have eN : mkN n d = n.tdiv (gcdZ n d) := by unfold mkN; rw [if_neg (by omega)]
        have eD : mkD n d = d.tdiv (gcdZ n d) := by unfold mkD; rw [if_neg (by omega)]
        rw [eN, eD, if_pos ⟨rn, rd⟩] at hE
        have eV : mkV n d = rV (n.tdiv (gcdZ n d)) (d.tdiv (gcdZ n d)) := by unfold mkV; rw [hE, eN, eD]; rfl
        rw [show signZ d = 1 by unfold signZ; rw [if_neg (by omega), if_neg (by omega)]] at hs
        rw [eV, hE]
        clear eV eN eD gp h rn rd f1 f2 rg hE h0
        generalize gcdZ n d = g at *
        generalize n.tdiv g = p at *
        generalize d.tdiv g = q at *
        go_enter Try.func15, Try.ntmps15
        have tk0 : True := trivial
        have tk1 : True := trivial
        have tk2 : True := trivial
        have tk3 : True := trivial
        go_wp2_with (first
          | (go_at_call 52; (with_reducible refine (hg _).mono ?_); rintro e w3 ⟨rfl, hb⟩; replace H := H.ext hb; clear hb; dsimp only)
          | (go_at_call 53; (with_reducible refine (d1 _).mono ?_); rintro e w3 ⟨rfl, hb⟩; replace H := H.ext hb; clear hb; dsimp only)
          | (go_at_call 53; (with_reducible refine (d2 _).mono ?_); rintro e w3 ⟨rfl, hb⟩; replace H := H.ext hb; clear hb; dsimp only)
          | (go_at_call 54; (with_reducible refine (hs _).mono ?_); rintro e w3 ⟨rfl, hb⟩; replace H := H.ext hb; clear hb; dsimp only)
          | (guard_target =~ wpList _ _ _ (_ :: _) _ _; (first | (guard_target =~ wpList _ _ _ (Oper.mk _ (.load _ _) _ _ _ _ :: _) _ _; refine BigFrame.wpList_want rfl (fun K hK => ?_); (refine o_loadNC (row := ?_) rfl rfl H ?_ ?_ ?_ (hK _ _ ?_); rotate_left 1; (repeat first | exact .head _ | apply List.Mem.tail); (focus (intro _; simp [cells_iV, iL_length, setL_i, setL_ii, agg_iL, cells_rV, rL_length, setL_r, setL_rr, agg_rL]; done)); (focus (intro _; simp [cells_iV, iL_length, setL_i, setL_ii, agg_iL, cells_rV, rL_length, setL_r, setL_rr, agg_rL]; done))); clear hK K) | (guard_target =~ wpList _ _ _ (Oper.mk _ (.build _ _) _ _ _ _ :: _) _ _; refine BigFrame.wpList_want rfl (fun K hK => ?_); (refine o_build (v := ?_) (ps := ?_) rfl ?_ ?_ (hK _ _ ?_); rotate_left 2; (focus (simp [Act.eval]; with_reducible exact rfl)); (focus (intro w4; with_reducible exact build_r _ _ w4))); clear hK K) | (guard_target =~ wpList _ _ _ (Oper.mk _ (.store _ _ _) _ _ _ _ :: _) _ _; refine BigFrame.wpList_want rfl (fun K hK => ?_); refine o_store (l' := ?_) (row := ?_) rfl rfl H rfl ?_ ?_ ?_ ?_ (fun w3 H2 => hK _ _ ?_); rotate_left 2; (first | exact r0 | exact r1 | exact r2 | exact r3); (focus (intro _; (simp [Act.eval, List.getD, cells_iV, iL_length, setL_i, setL_ii, agg_iL, cells_rV, rL_length, setL_r, setL_rr, agg_rL]; done))); (focus (simp [Act.eval, List.getD, cells_iV, iL_length, setL_i, setL_ii, agg_iL, cells_rV, rL_length, setL_r, setL_rr, agg_rL]; done)); (exact rfl); clear hK K; clear H; (try clear w2); revert w3; intro w2 H; (try simp [Act.eval, List.getD, cells_iV, iL_length, setL_i, setL_ii, agg_iL, cells_rV, rL_length, setL_r, setL_rr, agg_rL] at H); (try simp [Value.cells, setL, cells_iV, iL_length, setL_i, setL_ii, agg_iL, cells_rV, rL_length, setL_r, setL_rr, agg_rL] at H)) | ((first | (guard_target =~ wpList _ _ _ (Oper.mk _ (.alloc _) _ _ _ _ :: _) _ _; refine BigFrame.wpList_want rfl (fun K hK => ?_); refine o_alloc (z := ?_) rfl ?_ H rfl (fun w3 b2 he H2 => hK _ _ ?_); rotate_left 1; (focus (intro _; simp; with_reducible exact rfl))) | (guard_target =~ wpList _ _ _ (Oper.mk _ (.box _ _) _ _ _ _ :: _) _ _; refine BigFrame.wpList_want rfl (fun K hK => ?_); refine o_box rfl H rfl (fun w3 b2 he H2 => hK _ _ ?_))); clear hK K he; clear H; (try clear w2); revert w3; intro w2 H; (try simp [Act.eval, List.getD, cells_iV, iL_length, setL_i, setL_ii, agg_iL, cells_rV, rL_length, setL_r, setL_rr, agg_rL] at H); (try simp [Value.cells, setL, cells_iV, iL_length, setL_i, setL_ii, agg_iL, cells_rV, rL_length, setL_r, setL_rr, agg_rL] at H); (first | (clear tk0; rename Nat => c1) | (clear tk1; rename Nat => c2) | (clear tk2; rename Nat => c3) | (clear tk3; rename Nat => c4)))); simp only [Act.put, List.setIfInBounds_toArray, List.set_cons_succ, List.set_cons_zero, cells_iV, iL_length, setL_i, setL_ii, agg_iL, cells_rV, rL_length, setL_r, setL_rr, agg_rL]))
        have hr := H.loadVarN (P := Try.prog) (ty := 26) m1 (by simp) (by simp [rL_length])
        exact bodyPost_ret (v := .tuple #[rV p q, .int .i64 0]) (by simp [results, Try.results15, asAddr, hr, agg_rL]) rfl ⟨rfl, H.below⟩
    · have hE : mkE n d = 3 := by unfold mkE; rw [if_neg h0, if_neg (fun h => rg h.1)]
      have hV : mkV n d = rV 0 0 := by unfold mkV; rw [hE]; rfl
      rw [hE, hV]
      rw [f1, f2] at hg
      clear hE hV h0 f1 f2 rg
      go_enter Try.func15, Try.ntmps15
      have tk0 : True := trivial
      have tk1 : True := trivial
      have tk2 : True := trivial
      have tk3 : True := trivial
      go_wp2_with (first
        | (go_at_call 52; (with_reducible refine (hg _).mono ?_); rintro e w3 ⟨rfl, hb⟩; replace H := H.ext hb; clear hb; dsimp only)
        | (guard_target =~ wpList _ _ _ (_ :: _) _ _; (first | (guard_target =~ wpList _ _ _ (Oper.mk _ (.load _ _) _ _ _ _ :: _) _ _; refine BigFrame.wpList_want rfl (fun K hK => ?_); (refine o_loadNC (row := ?_) rfl rfl H ?_ ?_ ?_ (hK _ _ ?_); rotate_left 1; (repeat first | exact .head _ | apply List.Mem.tail); (focus (intro _; simp [cells_iV, iL_length, setL_i, setL_ii, agg_iL, cells_rV, rL_length, setL_r, setL_rr, agg_rL]; done)); (focus (intro _; simp [cells_iV, iL_length, setL_i, setL_ii, agg_iL, cells_rV, rL_length, setL_r, setL_rr, agg_rL]; done))); clear hK K) | (guard_target =~ wpList _ _ _ (Oper.mk _ (.build _ _) _ _ _ _ :: _) _ _; refine BigFrame.wpList_want rfl (fun K hK => ?_); (refine o_build (v := ?_) (ps := ?_) rfl ?_ ?_ (hK _ _ ?_); rotate_left 2; (focus (simp [Act.eval]; with_reducible exact rfl)); (focus (intro w4; with_reducible exact build_r0 w4))); clear hK K) | (guard_target =~ wpList _ _ _ (Oper.mk _ (.store _ _ _) _ _ _ _ :: _) _ _; refine BigFrame.wpList_want rfl (fun K hK => ?_); refine o_store (l' := ?_) (row := ?_) rfl rfl H rfl ?_ ?_ ?_ ?_ (fun w3 H2 => hK _ _ ?_); rotate_left 2; (first | exact r0 | exact r1); (focus (intro _; (simp [Act.eval, List.getD, cells_iV, iL_length, setL_i, setL_ii, agg_iL, cells_rV, rL_length, setL_r, setL_rr, agg_rL]; done))); (focus (simp [Act.eval, List.getD, cells_iV, iL_length, setL_i, setL_ii, agg_iL, cells_rV, rL_length, setL_r, setL_rr, agg_rL]; done)); (exact rfl); clear hK K; clear H; (try clear w2); revert w3; intro w2 H; (try simp [Act.eval, List.getD, cells_iV, iL_length, setL_i, setL_ii, agg_iL, cells_rV, rL_length, setL_r, setL_rr, agg_rL] at H); (try simp [Value.cells, setL, cells_iV, iL_length, setL_i, setL_ii, agg_iL, cells_rV, rL_length, setL_r, setL_rr, agg_rL] at H)) | ((first | (guard_target =~ wpList _ _ _ (Oper.mk _ (.alloc _) _ _ _ _ :: _) _ _; refine BigFrame.wpList_want rfl (fun K hK => ?_); refine o_alloc (z := ?_) rfl ?_ H rfl (fun w3 b2 he H2 => hK _ _ ?_); rotate_left 1; (focus (intro _; simp; with_reducible exact rfl))) | (guard_target =~ wpList _ _ _ (Oper.mk _ (.box _ _) _ _ _ _ :: _) _ _; refine BigFrame.wpList_want rfl (fun K hK => ?_); refine o_box rfl H rfl (fun w3 b2 he H2 => hK _ _ ?_))); clear hK K he; clear H; (try clear w2); revert w3; intro w2 H; (try simp [Act.eval, List.getD, cells_iV, iL_length, setL_i, setL_ii, agg_iL, cells_rV, rL_length, setL_r, setL_rr, agg_rL] at H); (try simp [Value.cells, setL, cells_iV, iL_length, setL_i, setL_ii, agg_iL, cells_rV, rL_length, setL_r, setL_rr, agg_rL] at H); (first | (clear tk0; rename Nat => c1) | (clear tk1; rename Nat => c2) | (clear tk2; rename Nat => c3) | (clear tk3; rename Nat => c4)))); simp only [Act.put, List.setIfInBounds_toArray, List.set_cons_succ, List.set_cons_zero, cells_iV, iL_length, setL_i, setL_ii, agg_iL, cells_rV, rL_length, setL_r, setL_rr, agg_rL]))
      have hr := H.loadVarN (P := Try.prog) (ty := 26) m1 (by simp) (by simp [rL_length])
      exact bodyPost_ret (v := .tuple #[rV 0 0, .int .i64 3]) (by simp [results, Try.results15, asAddr, hr, agg_rL]) rfl ⟨rfl, H.below⟩
end Go.Proofs.Ytmmieilogpmocaa
