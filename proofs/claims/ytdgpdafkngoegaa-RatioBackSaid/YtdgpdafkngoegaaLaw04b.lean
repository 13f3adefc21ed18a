/-
  The statements of layer 4: what was added can be taken away, what was multiplied by divided by.
-/
import Derived.Test.YtdgpdafkngoegaaLaw04a
import Derived.Test.YtdgpdafkngoegaaFrac
namespace Go.Proofs.Ytdgpdafkngoegaa
set_option linter.unusedVariables false
set_option linter.unusedSimpArgs false
open Go.RowKit

theorem fit_self {x : Int} (h : R256 x) : fitZ x = x := by unfold fitZ; rw [if_pos h]
theorem mk_fits {x y : Int} (h : mkE x y = 0) : y ≠ 0 ∧ R256 (mkN x y) ∧ R256 (mkD x y) := by
  unfold mkE at h
  by_cases h0 : y = 0
  · rw [if_pos h0] at h; omega
  · rw [if_neg h0] at h
    refine ⟨h0, ?_⟩
    by_cases hh : R256 (gcdZ x y) ∧ R256 (mkN x y) ∧ R256 (mkD x y)
    · exact hh.2
    · rw [if_neg hh] at h; omega
theorem mkE_03 {x y : Int} (h : y ≠ 0) : mkE x y = 0 ∨ mkE x y = 3 := by
  unfold mkE
  rw [if_neg h]
  split
  · exact .inl rfl
  · exact .inr rfl
theorem nx_zero {e x : Int} (hx : nx e x = 0) : e = 0 ∧ R256 x := by
  unfold nx at hx
  by_cases h0 : e = 0
  · rw [if_pos h0] at hx
    refine ⟨h0, ?_⟩
    unfold errZ at hx
    by_cases hr : R256 x
    · exact hr
    · rw [if_neg hr] at hx; omega
  · rw [if_neg h0] at hx; exact absurd hx h0
/-- What is made of a product's numbers: it fits, or is too large. -/
theorem prod_made (x y : Int) (hy : y ≠ 0) : (madeE (fitZ x) (fitZ y) (prodE x y) = 0 ∧ madeV (fitZ x) (fitZ y) (prodE x y) = rV (mkN x y) (mkD x y) ∧ mkE x y = 0) ∨ (madeE (fitZ x) (fitZ y) (prodE x y) = 3 ∧ ∃ p q, madeV (fitZ x) (fitZ y) (prodE x y) = rV p q) := by
  by_cases h : prodE x y = 0
  · obtain ⟨h1, ry⟩ := nx_zero h
    obtain ⟨_, rx⟩ := nx_zero h1
    unfold madeE madeV
    rw [if_pos h, if_pos h, fit_self rx, fit_self ry]
    rcases mkE_03 (x := x) hy with h2 | h2
    · left
      refine ⟨h2, ?_, h2⟩
      unfold mkV; rw [if_pos h2]
    · right
      refine ⟨h2, ?_⟩
      unfold mkV; rw [h2]; exact ⟨_, _, rfl⟩
  · right
    unfold madeE madeV
    rw [if_neg h, if_neg h]
    have := nx_03 y (nx_03 x (.inl rfl : (0 : Int) = 0 ∨ (0 : Int) = 3))
    refine ⟨?_, _, _, rfl⟩
    unfold prodE at h ⊢
    rcases this with h1 | h1
    · exact absurd h1 h
    · exact h1
theorem sum_made {n d m e z : Int} (b1 : rightB n d = true) (b2 : rightB m e = true) : sumU n d m e z = 0 ∨ (sumU n d m e z = 3 ∧ ∃ p q, sumV n d m e z = rV p q) := by
  obtain ⟨p1, _⟩ := rightB_iff.1 b1
  obtain ⟨p2, _⟩ := rightB_iff.1 b2
  have hD : 0 < d * e := Int.mul_pos p1 p2
  by_cases h : sumU n d m e z = 0
  · exact .inl h
  · right
    refine ⟨?_, sumV_form _ _ _ _ _⟩
    unfold sumU at h ⊢
    rw [b1, b2, Bool.true_and, if_pos rfl] at h ⊢
    unfold madeE at h ⊢
    by_cases hs : sumE n d m e z = 0
    · rw [if_pos hs] at h ⊢
      obtain ⟨_, r4⟩ := nx_zero hs
      rw [fit_self r4] at h ⊢
      rcases mkE_03 (x := fitZ z) (y := d * e) (by omega) with h2 | h2
      · exact absurd h2 h
      · exact h2
    · rw [if_neg hs]
      have := nx_03 (d * e) (nx_03 z (nx_03 (m * d) (nx_03 (n * e) (.inl rfl : (0 : Int) = 0 ∨ (0 : Int) = 3))))
      rcases this with h1 | h1
      · exact absurd h1 hs
      · exact h1
/-- A sum that fits, taken away again. -/
theorem add_back {n d m e : Int} (h : sumU n d m e (fitZ (n * e) + fitZ (m * d)) = 0) : ∃ p q, sumV n d m e (fitZ (n * e) + fitZ (m * d)) = rV p q ∧ R256 p ∧ R256 q ∧ rightB p q = true ∧
    ((sumU p q m e (fitZ (p * e) - fitZ (m * q)) = 0 ∧ sumV p q m e (fitZ (p * e) - fitZ (m * q)) = rV n d) ∨ (sumU p q m e (fitZ (p * e) - fitZ (m * q)) = 3 ∧ ∃ p' q', sumV p q m e (fitZ (p * e) - fitZ (m * q)) = rV p' q')) := by
  obtain ⟨b1, b2, r1, r2, rz, r4, he, hv⟩ := sum_ok h
  obtain ⟨d1, _⟩ := rightB_iff.1 b1
  obtain ⟨d2, _⟩ := rightB_iff.1 b2
  obtain ⟨h0, rp, rq⟩ := mk_fits he
  rw [fit_self r1, fit_self r2] at hv he rp rq ⊢
  obtain ⟨s1, s2, s3⟩ := mk_spec (n := n * e + m * d) (d := d * e) h0
  refine ⟨_, _, hv, rp, rq, mk_right h0, ?_⟩
  generalize mkN (n * e + m * d) (d * e) = p at *
  generalize mkD (n * e + m * d) (d * e) = q at *
  have hb : rightB p q = true := rightB_iff.2 ⟨s2, s3⟩
  rcases sum_made (z := fitZ (p * e) - fitZ (m * q)) hb b2 with k | k
  · left
    obtain ⟨_, _, q1, q2, qz, q4, qe, qv⟩ := sum_ok k
    refine ⟨k, ?_⟩
    rw [qv, fit_self q1, fit_self q2]
    have hD : q * e ≠ 0 := by have := Int.mul_pos s2 d2; omega
    obtain ⟨e1, e2⟩ := mk_back (m := p * e - m * q) b1 hD (by grind)
    rw [e1, e2]
  · exact .inr k
/-- A product that fits, divided again. -/
theorem mul_back {n d m e : Int} (h : mulU n d m e = 0) : ∃ p q, mulV n d m e = rV p q ∧ R256 p ∧ R256 q ∧ rightB p q = true ∧
    ((divU p q m e = 0 ∧ divV p q m e = rV n d) ∨ ((divU p q m e = 3 ∨ divU p q m e = 4) ∧ ∃ p' q', divV p q m e = rV p' q')) := by
  unfold mulU at h
  unfold mulV
  by_cases hb : (rightB n d && rightB m e) = true
  · obtain ⟨b1, b2⟩ : rightB n d = true ∧ rightB m e = true := by simpa using hb
    rw [if_pos hb] at h ⊢
    obtain ⟨d1, _⟩ := rightB_iff.1 b1
    obtain ⟨d2, _⟩ := rightB_iff.1 b2
    have hD0 : d * e ≠ 0 := by have := Int.mul_pos d1 d2; omega
    rcases prod_made (n * m) (d * e) hD0 with ⟨_, hv, he⟩ | ⟨h3, _⟩
    · obtain ⟨h0, rp, rq⟩ := mk_fits he
      obtain ⟨s1, s2, s3⟩ := mk_spec (n := n * m) (d := d * e) h0
      refine ⟨_, _, hv, rp, rq, mk_right h0, ?_⟩
      generalize mkN (n * m) (d * e) = p at *
      generalize mkD (n * m) (d * e) = q at *
      have hq : rightB p q = true := rightB_iff.2 ⟨s2, s3⟩
      unfold divU divV
      rw [hq, b2, Bool.true_and, if_pos rfl, if_pos rfl]
      by_cases hm : m = 0
      · rw [if_pos hm, if_pos hm]
        exact .inr ⟨.inr rfl, _, _, rfl⟩
      · rw [if_neg hm, if_neg hm]
        have hqm : q * m ≠ 0 := by
          intro hh
          rcases Int.mul_eq_zero.1 hh with h1 | h1
          · omega
          · exact hm h1
        rcases prod_made (p * e) (q * m) hqm with ⟨k1, k2, k3⟩ | ⟨k1, k2⟩
        · refine .inl ⟨k1, ?_⟩
          rw [k2]
          obtain ⟨e1, e2⟩ := mk_back (m := p * e) b1 hqm (by grind)
          rw [e1, e2]
        · exact .inr ⟨.inl k1, k2⟩
    · rw [h3] at h; omega
  · rw [if_neg hb] at h; omega
theorem mulV_form (n d m e : Int) : ∃ p q, mulV n d m e = rV p q := by
  unfold mulV
  split
  · exact madeV_form _ _ _
  · exact ⟨_, _, rfl⟩
set_option maxRecDepth 100000 in
set_option maxHeartbeats 16000000 in
theorem law_RatioBack (n d m e : Int) (w : World) (hn : R256 n) (hd : R256 d) (hm : R256 m) (he : R256 e) :
    Calls Try.prog 30 #[rV n d, rV m e] w fun e' w' => e' = .returned (.bool true) ∧ Below w.heap.size w w' := by
  have H := Own.start w
  have hA := fun w => ratAdd_any n d m e hn hd hm he w
  have hM := fun w => ratMul_any n d m e hn hd hm he w
  have hE := ne_r rat2_prog n d n d hn hd hn hd
  rw [show (!(decide (n = n) && decide (d = d))) = false by simp] at hE
  have g1 : ∀ op x y w, (eqGuard op 64 x y (rV n d) (rV n d)).run Try.prog w = .ok () w := fun op x y w => by
    have h : Try.prog.eqGuardType Try.prog.depth 64 = false := by kernel_rfl
    unfold rV
    cases op <;> simp [eqGuard, h]
  have hU : (sumU n d m e (fitZ (n * e) + fitZ (m * d)) ≠ 0 ∧ ∃ p q, sumV n d m e (fitZ (n * e) + fitZ (m * d)) = rV p q) ∨ sumU n d m e (fitZ (n * e) + fitZ (m * d)) = 0 := by
    by_cases h : sumU n d m e (fitZ (n * e) + fitZ (m * d)) = 0
    · exact .inr h
    · exact .inl ⟨h, sumV_form _ _ _ _ _⟩
  have hF : (mulU n d m e ≠ 0 ∧ ∃ p q, mulV n d m e = rV p q) ∨ mulU n d m e = 0 := by
    by_cases h : mulU n d m e = 0
    · exact .inr h
    · exact .inl ⟨h, mulV_form _ _ _ _⟩
  rcases hU with ⟨u, p, q, hv⟩ | hu
  · rw [hv] at hA
    replace u : (sumU n d m e (fitZ (n * e) + fitZ (m * d)) == 0) = false := by simpa using u
    clear hv
    generalize sumU n d m e (fitZ (n * e) + fitZ (m * d)) = U at *
    rcases hF with ⟨f, p2, q2, fv⟩ | hf
    · rw [fv] at hM
      replace f : (mulU n d m e == 0) = false := by simpa using f
      clear fv
      generalize mulU n d m e = F at *
      go_enter Try.func30, Try.ntmps30
      have tk0 : True := trivial
      have tk1 : True := trivial
      have tk2 : True := trivial
      have tk3 : True := trivial
      go_wp2_with (first
        | go_big_skip
        | (go_at_call 60; (with_reducible refine (awake4_any _).mono ?_); rintro e w3 ⟨rfl, hb⟩; replace H := H.ext hb; clear hb; dsimp only)
        | (go_at_call 93; (with_reducible refine (hA _).mono ?_); rintro e w3 ⟨rfl, hb⟩; replace H := H.ext hb; clear hb; dsimp only)
        | (go_at_call 90; (with_reducible refine (hM _).mono ?_); rintro e w3 ⟨rfl, hb⟩; replace H := H.ext hb; clear hb; dsimp only)
        | (guard_target =~ wpList _ _ _ (_ :: _) _ _; (first | (guard_target =~ wpList _ _ _ (Oper.mk _ (.load _ _) _ _ _ _ :: _) _ _; refine BigFrame.wpList_want rfl (fun K hK => ?_); (first | (refine o_load (v := ?_) (r := ?_) rfl rfl H ?_ ?_ ?_ (hK _ _ ?_); rotate_left 2; (with_reducible assumption); (repeat first | exact .head _ | apply List.Mem.tail); (focus (intro _; simp [cells_iV, iL_length, setL_i, setL_ii, agg_iL, cells_rV, rL_length, setL_r, setL_rr, agg_rL]; done))) | (refine o_loadC (v := ?_) (row := ?_) rfl rfl H ?_ ?_ ?_ (hK _ _ ?_); rotate_left 2; (repeat first | exact .head _ | apply List.Mem.tail); (first | exact rfl | with_reducible assumption); (focus (intro _; simp [cells_iV, iL_length, setL_i, setL_ii, agg_iL, cells_rV, rL_length, setL_r, setL_rr, agg_rL]; done))) | (refine o_loadN (cs := ?_) (r := ?_) rfl rfl H ?_ ?_ ?_ ?_ (hK _ _ ?_); rotate_left 2; (with_reducible assumption); (repeat first | exact .head _ | apply List.Mem.tail); (focus (intro _; simp [cells_iV, iL_length, setL_i, setL_ii, agg_iL, cells_rV, rL_length, setL_r, setL_rr, agg_rL]; done)); (focus (intro _; simp [cells_iV, iL_length, setL_i, setL_ii, agg_iL, cells_rV, rL_length, setL_r, setL_rr, agg_rL]; done))) | (refine o_loadNC (row := ?_) rfl rfl H ?_ ?_ ?_ (hK _ _ ?_); rotate_left 1; (repeat first | exact .head _ | apply List.Mem.tail); (focus (intro _; simp [cells_iV, iL_length, setL_i, setL_ii, agg_iL, cells_rV, rL_length, setL_r, setL_rr, agg_rL]; done)); (focus (intro _; simp [cells_iV, iL_length, setL_i, setL_ii, agg_iL, cells_rV, rL_length, setL_r, setL_rr, agg_rL]; done)))); clear hK K) | (guard_target =~ wpList _ _ _ (Oper.mk _ (.store _ _ _) _ _ _ _ :: _) _ _; refine BigFrame.wpList_want rfl (fun K hK => ?_); refine o_store (l' := ?_) (row := ?_) rfl rfl H rfl ?_ ?_ ?_ ?_ (fun w3 H2 => hK _ _ ?_); rotate_left 2; (first | exact r0 | exact r1 | exact r2 | exact r3 | exact r4 | exact r5 | exact r6 | exact r7 | exact r8 | exact r9 | exact r10 | exact r11 | exact r12 | exact r13 | exact r14 | exact r15); (focus (intro _; (first | (simp [Act.eval, List.getD, cells_iV, iL_length, setL_i, setL_ii, agg_iL, cells_rV, rL_length, setL_r, setL_rr, agg_rL]; done) | (simp [Act.eval, Value.cells, List.getD, cells_iV, iL_length, setL_i, setL_ii, agg_iL, cells_rV, rL_length, setL_r, setL_rr, agg_rL]; done)))); (focus (first | (simp [Act.eval, List.getD, cells_iV, iL_length, setL_i, setL_ii, agg_iL, cells_rV, rL_length, setL_r, setL_rr, agg_rL]; done) | (simp [Act.eval, Value.cells, List.getD, cells_iV, iL_length, setL_i, setL_ii, agg_iL, cells_rV, rL_length, setL_r, setL_rr, agg_rL]; done) | ((try simp [Act.eval, List.getD, cells_iV, iL_length, setL_i, setL_ii, agg_iL, cells_rV, rL_length, setL_r, setL_rr, agg_rL]); omega) | ((try simp [Act.eval, Value.cells, List.getD, cells_iV, iL_length, setL_i, setL_ii, agg_iL, cells_rV, rL_length, setL_r, setL_rr, agg_rL]); omega))); (first | exact rfl | (focus ((first | (simp [Act.eval, List.getD, cells_iV, iL_length, setL_i, setL_ii, agg_iL, cells_rV, rL_length, setL_r, setL_rr, agg_rL]; done) | (simp [Act.eval, Value.cells, List.getD, cells_iV, iL_length, setL_i, setL_ii, agg_iL, cells_rV, rL_length, setL_r, setL_rr, agg_rL]; done))))); clear hK K; clear H; (try clear w2); revert w3; intro w2 H; (try simp [Act.eval, List.getD, cells_iV, iL_length, setL_i, setL_ii, agg_iL, cells_rV, rL_length, setL_r, setL_rr, agg_rL] at H); (try simp [Value.cells, setL, cells_iV, iL_length, setL_i, setL_ii, agg_iL, cells_rV, rL_length, setL_r, setL_rr, agg_rL] at H)) | ((first | (guard_target =~ wpList _ _ _ (Oper.mk _ (.alloc _) _ _ _ _ :: _) _ _; refine BigFrame.wpList_want rfl (fun K hK => ?_); refine o_alloc (z := ?_) rfl ?_ H rfl (fun w3 b2 he H2 => hK _ _ ?_); rotate_left 1; (focus (intro _; simp; with_reducible exact rfl))) | (guard_target =~ wpList _ _ _ (Oper.mk _ (.box _ _) _ _ _ _ :: _) _ _; refine BigFrame.wpList_want rfl (fun K hK => ?_); refine o_box rfl H rfl (fun w3 b2 he H2 => hK _ _ ?_)) | (guard_target =~ wpList _ _ _ (Oper.mk _ (.buildSlice _ _ _) _ _ _ _ :: _) _ _; refine BigFrame.wpList_want rfl (fun K hK => ?_); refine o_buildSlice (C := ?_) (E := ?_) rfl rfl H ?_ rfl (fun w3 b2 he H2 => hK _ _ ?_); rotate_left 2; (focus (intro _; simp [go_sem, Instr.buildSlice]; with_reducible exact rfl)))); clear hK K he; clear H; (try clear w2); revert w3; intro w2 H; (try simp [Act.eval, List.getD, cells_iV, iL_length, setL_i, setL_ii, agg_iL, cells_rV, rL_length, setL_r, setL_rr, agg_rL] at H); (try simp [Value.cells, setL, cells_iV, iL_length, setL_i, setL_ii, agg_iL, cells_rV, rL_length, setL_r, setL_rr, agg_rL] at H); (first | (clear tk0; rename Nat => c1) | (clear tk1; rename Nat => c2) | (clear tk2; rename Nat => c3) | (clear tk3; rename Nat => c4) | (skip)))); simp only [Act.put, List.setIfInBounds_toArray, List.set_cons_succ, List.set_cons_zero, cells_iV, iL_length, setL_i, setL_ii, agg_iL, cells_rV, rL_length, setL_r, setL_rr, agg_rL]))
      go_ret
      exact ⟨rfl, H.below⟩
    · obtain ⟨p2, q2, fv, rp, rq, hr, hc⟩ := mul_back hf
      have hR := fun w => Right_any p2 q2 rp rq w
      have hD := fun w => ratDiv_any p2 q2 m e rp rq hm he w
      rw [fv, hf] at hM
      rw [hr] at hR
      clear fv hf hr
      have hc2 : ∃ E P Q, divU p2 q2 m e = E ∧ divV p2 q2 m e = rV P Q ∧ ((E = 0 ∧ P = n ∧ Q = d) ∨ E = 3 ∨ E = 4) := by
        rcases hc with ⟨k1, k2⟩ | ⟨k1, p', q', k2⟩
        · exact ⟨_, _, _, k1, k2, .inl ⟨rfl, rfl, rfl⟩⟩
        · exact ⟨_, _, _, rfl, k2, .inr k1⟩
      obtain ⟨E, P, Q, k1, k2, k3⟩ := hc2
      rw [k1, k2] at hD
      clear k1 k2 hc
      rcases k3 with ⟨rfl, rfl, rfl⟩ | rfl | rfl
      all_goals
        go_enter Try.func30, Try.ntmps30
        have tk0 : True := trivial
        have tk1 : True := trivial
        have tk2 : True := trivial
        have tk3 : True := trivial
        go_wp2_with (first
          | go_big_skip
          | (go_at_call 60; (with_reducible refine (awake4_any _).mono ?_); rintro e w3 ⟨rfl, hb⟩; replace H := H.ext hb; clear hb; dsimp only)
          | (go_at_call 93; (with_reducible refine (hA _).mono ?_); rintro e w3 ⟨rfl, hb⟩; replace H := H.ext hb; clear hb; dsimp only)
          | (go_at_call 90; (with_reducible refine (hM _).mono ?_); rintro e w3 ⟨rfl, hb⟩; replace H := H.ext hb; clear hb; dsimp only)
          | (go_at_call 62; (with_reducible refine (hR _).mono ?_); rintro e w3 ⟨rfl, hb⟩; replace H := H.ext hb; clear hb; dsimp only)
          | (go_at_call 91; (with_reducible refine (hD _).mono ?_); rintro e w3 ⟨rfl, hb⟩; replace H := H.ext hb; clear hb; dsimp only)
          | (guard_target =~ wpList _ _ _ (_ :: _) _ _; (first | (guard_target =~ wpList _ _ _ (Oper.mk _ (.load _ _) _ _ _ _ :: _) _ _; refine BigFrame.wpList_want rfl (fun K hK => ?_); (first | (refine o_load (v := ?_) (r := ?_) rfl rfl H ?_ ?_ ?_ (hK _ _ ?_); rotate_left 2; (with_reducible assumption); (repeat first | exact .head _ | apply List.Mem.tail); (focus (intro _; simp [cells_iV, iL_length, setL_i, setL_ii, agg_iL, cells_rV, rL_length, setL_r, setL_rr, agg_rL]; done))) | (refine o_loadC (v := ?_) (row := ?_) rfl rfl H ?_ ?_ ?_ (hK _ _ ?_); rotate_left 2; (repeat first | exact .head _ | apply List.Mem.tail); (first | exact rfl | with_reducible assumption); (focus (intro _; simp [cells_iV, iL_length, setL_i, setL_ii, agg_iL, cells_rV, rL_length, setL_r, setL_rr, agg_rL]; done))) | (refine o_loadN (cs := ?_) (r := ?_) rfl rfl H ?_ ?_ ?_ ?_ (hK _ _ ?_); rotate_left 2; (with_reducible assumption); (repeat first | exact .head _ | apply List.Mem.tail); (focus (intro _; simp [cells_iV, iL_length, setL_i, setL_ii, agg_iL, cells_rV, rL_length, setL_r, setL_rr, agg_rL]; done)); (focus (intro _; simp [cells_iV, iL_length, setL_i, setL_ii, agg_iL, cells_rV, rL_length, setL_r, setL_rr, agg_rL]; done))) | (refine o_loadNC (row := ?_) rfl rfl H ?_ ?_ ?_ (hK _ _ ?_); rotate_left 1; (repeat first | exact .head _ | apply List.Mem.tail); (focus (intro _; simp [cells_iV, iL_length, setL_i, setL_ii, agg_iL, cells_rV, rL_length, setL_r, setL_rr, agg_rL]; done)); (focus (intro _; simp [cells_iV, iL_length, setL_i, setL_ii, agg_iL, cells_rV, rL_length, setL_r, setL_rr, agg_rL]; done)))); clear hK K) | (guard_target =~ wpList _ _ _ (Oper.mk _ (.store _ _ _) _ _ _ _ :: _) _ _; refine BigFrame.wpList_want rfl (fun K hK => ?_); refine o_store (l' := ?_) (row := ?_) rfl rfl H rfl ?_ ?_ ?_ ?_ (fun w3 H2 => hK _ _ ?_); rotate_left 2; (first | exact r0 | exact r1 | exact r2 | exact r3 | exact r4 | exact r5 | exact r6 | exact r7 | exact r8 | exact r9 | exact r10 | exact r11 | exact r12 | exact r13 | exact r14 | exact r15); (focus (intro _; (first | (simp [Act.eval, List.getD, cells_iV, iL_length, setL_i, setL_ii, agg_iL, cells_rV, rL_length, setL_r, setL_rr, agg_rL]; done) | (simp [Act.eval, Value.cells, List.getD, cells_iV, iL_length, setL_i, setL_ii, agg_iL, cells_rV, rL_length, setL_r, setL_rr, agg_rL]; done)))); (focus (first | (simp [Act.eval, List.getD, cells_iV, iL_length, setL_i, setL_ii, agg_iL, cells_rV, rL_length, setL_r, setL_rr, agg_rL]; done) | (simp [Act.eval, Value.cells, List.getD, cells_iV, iL_length, setL_i, setL_ii, agg_iL, cells_rV, rL_length, setL_r, setL_rr, agg_rL]; done) | ((try simp [Act.eval, List.getD, cells_iV, iL_length, setL_i, setL_ii, agg_iL, cells_rV, rL_length, setL_r, setL_rr, agg_rL]); omega) | ((try simp [Act.eval, Value.cells, List.getD, cells_iV, iL_length, setL_i, setL_ii, agg_iL, cells_rV, rL_length, setL_r, setL_rr, agg_rL]); omega))); (first | exact rfl | (focus ((first | (simp [Act.eval, List.getD, cells_iV, iL_length, setL_i, setL_ii, agg_iL, cells_rV, rL_length, setL_r, setL_rr, agg_rL]; done) | (simp [Act.eval, Value.cells, List.getD, cells_iV, iL_length, setL_i, setL_ii, agg_iL, cells_rV, rL_length, setL_r, setL_rr, agg_rL]; done))))); clear hK K; clear H; (try clear w2); revert w3; intro w2 H; (try simp [Act.eval, List.getD, cells_iV, iL_length, setL_i, setL_ii, agg_iL, cells_rV, rL_length, setL_r, setL_rr, agg_rL] at H); (try simp [Value.cells, setL, cells_iV, iL_length, setL_i, setL_ii, agg_iL, cells_rV, rL_length, setL_r, setL_rr, agg_rL] at H)) | ((first | (guard_target =~ wpList _ _ _ (Oper.mk _ (.alloc _) _ _ _ _ :: _) _ _; refine BigFrame.wpList_want rfl (fun K hK => ?_); refine o_alloc (z := ?_) rfl ?_ H rfl (fun w3 b2 he H2 => hK _ _ ?_); rotate_left 1; (focus (intro _; simp; with_reducible exact rfl))) | (guard_target =~ wpList _ _ _ (Oper.mk _ (.box _ _) _ _ _ _ :: _) _ _; refine BigFrame.wpList_want rfl (fun K hK => ?_); refine o_box rfl H rfl (fun w3 b2 he H2 => hK _ _ ?_)) | (guard_target =~ wpList _ _ _ (Oper.mk _ (.buildSlice _ _ _) _ _ _ _ :: _) _ _; refine BigFrame.wpList_want rfl (fun K hK => ?_); refine o_buildSlice (C := ?_) (E := ?_) rfl rfl H ?_ rfl (fun w3 b2 he H2 => hK _ _ ?_); rotate_left 2; (focus (intro _; simp [go_sem, Instr.buildSlice]; with_reducible exact rfl)))); clear hK K he; clear H; (try clear w2); revert w3; intro w2 H; (try simp [Act.eval, List.getD, cells_iV, iL_length, setL_i, setL_ii, agg_iL, cells_rV, rL_length, setL_r, setL_rr, agg_rL] at H); (try simp [Value.cells, setL, cells_iV, iL_length, setL_i, setL_ii, agg_iL, cells_rV, rL_length, setL_r, setL_rr, agg_rL] at H); (first | (clear tk0; rename Nat => c1) | (clear tk1; rename Nat => c2) | (clear tk2; rename Nat => c3) | (clear tk3; rename Nat => c4) | (skip)))); simp only [Act.put, List.setIfInBounds_toArray, List.set_cons_succ, List.set_cons_zero, cells_iV, iL_length, setL_i, setL_ii, agg_iL, cells_rV, rL_length, setL_r, setL_rr, agg_rL]))
        go_ret
        exact ⟨rfl, H.below⟩
  · obtain ⟨p, q, hv, rp, rq, hr, hc⟩ := add_back hu
    have hR := fun w => Right_any p q rp rq w
    have hS := fun w => ratSub_any p q m e rp rq hm he w
    rw [hv, hu] at hA
    rw [hr] at hR
    clear hv hu hr
    have hc2 : ∃ E P Q, sumU p q m e (fitZ (p * e) - fitZ (m * q)) = E ∧ sumV p q m e (fitZ (p * e) - fitZ (m * q)) = rV P Q ∧ ((E = 0 ∧ P = n ∧ Q = d) ∨ E = 3) := by
      rcases hc with ⟨k1, k2⟩ | ⟨k1, p', q', k2⟩
      · exact ⟨_, _, _, k1, k2, .inl ⟨rfl, rfl, rfl⟩⟩
      · exact ⟨_, _, _, k1, k2, .inr rfl⟩
    obtain ⟨E, P, Q, k1, k2, k3⟩ := hc2
    rw [k1, k2] at hS
    clear k1 k2 hc
    rcases hF with ⟨f, p2, q2, fv⟩ | hf
    · rw [fv] at hM
      replace f : (mulU n d m e == 0) = false := by simpa using f
      clear fv
      generalize mulU n d m e = F at *
      rcases k3 with ⟨rfl, rfl, rfl⟩ | rfl
      all_goals
        go_enter Try.func30, Try.ntmps30
        have tk0 : True := trivial
        have tk1 : True := trivial
        have tk2 : True := trivial
        have tk3 : True := trivial
        go_wp2_with (first
          | go_big_skip
          | (go_at_call 60; (with_reducible refine (awake4_any _).mono ?_); rintro e w3 ⟨rfl, hb⟩; replace H := H.ext hb; clear hb; dsimp only)
          | (go_at_call 93; (with_reducible refine (hA _).mono ?_); rintro e w3 ⟨rfl, hb⟩; replace H := H.ext hb; clear hb; dsimp only)
          | (go_at_call 90; (with_reducible refine (hM _).mono ?_); rintro e w3 ⟨rfl, hb⟩; replace H := H.ext hb; clear hb; dsimp only)
          | (go_at_call 62; (with_reducible refine (hR _).mono ?_); rintro e w3 ⟨rfl, hb⟩; replace H := H.ext hb; clear hb; dsimp only)
          | (go_at_call 94; (with_reducible refine (hS _).mono ?_); rintro e w3 ⟨rfl, hb⟩; replace H := H.ext hb; clear hb; dsimp only)
          | (guard_target =~ wpList _ _ _ (_ :: _) _ _; (first | (guard_target =~ wpList _ _ _ (Oper.mk _ (.load _ _) _ _ _ _ :: _) _ _; refine BigFrame.wpList_want rfl (fun K hK => ?_); (first | (refine o_load (v := ?_) (r := ?_) rfl rfl H ?_ ?_ ?_ (hK _ _ ?_); rotate_left 2; (with_reducible assumption); (repeat first | exact .head _ | apply List.Mem.tail); (focus (intro _; simp [cells_iV, iL_length, setL_i, setL_ii, agg_iL, cells_rV, rL_length, setL_r, setL_rr, agg_rL]; done))) | (refine o_loadC (v := ?_) (row := ?_) rfl rfl H ?_ ?_ ?_ (hK _ _ ?_); rotate_left 2; (repeat first | exact .head _ | apply List.Mem.tail); (first | exact rfl | with_reducible assumption); (focus (intro _; simp [cells_iV, iL_length, setL_i, setL_ii, agg_iL, cells_rV, rL_length, setL_r, setL_rr, agg_rL]; done))) | (refine o_loadN (cs := ?_) (r := ?_) rfl rfl H ?_ ?_ ?_ ?_ (hK _ _ ?_); rotate_left 2; (with_reducible assumption); (repeat first | exact .head _ | apply List.Mem.tail); (focus (intro _; simp [cells_iV, iL_length, setL_i, setL_ii, agg_iL, cells_rV, rL_length, setL_r, setL_rr, agg_rL]; done)); (focus (intro _; simp [cells_iV, iL_length, setL_i, setL_ii, agg_iL, cells_rV, rL_length, setL_r, setL_rr, agg_rL]; done))) | (refine o_loadNC (row := ?_) rfl rfl H ?_ ?_ ?_ (hK _ _ ?_); rotate_left 1; (repeat first | exact .head _ | apply List.Mem.tail); (focus (intro _; simp [cells_iV, iL_length, setL_i, setL_ii, agg_iL, cells_rV, rL_length, setL_r, setL_rr, agg_rL]; done)); (focus (intro _; simp [cells_iV, iL_length, setL_i, setL_ii, agg_iL, cells_rV, rL_length, setL_r, setL_rr, agg_rL]; done)))); clear hK K) | (guard_target =~ wpList _ _ _ (Oper.mk _ (.store _ _ _) _ _ _ _ :: _) _ _; refine BigFrame.wpList_want rfl (fun K hK => ?_); refine o_store (l' := ?_) (row := ?_) rfl rfl H rfl ?_ ?_ ?_ ?_ (fun w3 H2 => hK _ _ ?_); rotate_left 2; (first | exact r0 | exact r1 | exact r2 | exact r3 | exact r4 | exact r5 | exact r6 | exact r7 | exact r8 | exact r9 | exact r10 | exact r11 | exact r12 | exact r13 | exact r14 | exact r15); (focus (intro _; (first | (simp [Act.eval, List.getD, cells_iV, iL_length, setL_i, setL_ii, agg_iL, cells_rV, rL_length, setL_r, setL_rr, agg_rL]; done) | (simp [Act.eval, Value.cells, List.getD, cells_iV, iL_length, setL_i, setL_ii, agg_iL, cells_rV, rL_length, setL_r, setL_rr, agg_rL]; done)))); (focus (first | (simp [Act.eval, List.getD, cells_iV, iL_length, setL_i, setL_ii, agg_iL, cells_rV, rL_length, setL_r, setL_rr, agg_rL]; done) | (simp [Act.eval, Value.cells, List.getD, cells_iV, iL_length, setL_i, setL_ii, agg_iL, cells_rV, rL_length, setL_r, setL_rr, agg_rL]; done) | ((try simp [Act.eval, List.getD, cells_iV, iL_length, setL_i, setL_ii, agg_iL, cells_rV, rL_length, setL_r, setL_rr, agg_rL]); omega) | ((try simp [Act.eval, Value.cells, List.getD, cells_iV, iL_length, setL_i, setL_ii, agg_iL, cells_rV, rL_length, setL_r, setL_rr, agg_rL]); omega))); (first | exact rfl | (focus ((first | (simp [Act.eval, List.getD, cells_iV, iL_length, setL_i, setL_ii, agg_iL, cells_rV, rL_length, setL_r, setL_rr, agg_rL]; done) | (simp [Act.eval, Value.cells, List.getD, cells_iV, iL_length, setL_i, setL_ii, agg_iL, cells_rV, rL_length, setL_r, setL_rr, agg_rL]; done))))); clear hK K; clear H; (try clear w2); revert w3; intro w2 H; (try simp [Act.eval, List.getD, cells_iV, iL_length, setL_i, setL_ii, agg_iL, cells_rV, rL_length, setL_r, setL_rr, agg_rL] at H); (try simp [Value.cells, setL, cells_iV, iL_length, setL_i, setL_ii, agg_iL, cells_rV, rL_length, setL_r, setL_rr, agg_rL] at H)) | ((first | (guard_target =~ wpList _ _ _ (Oper.mk _ (.alloc _) _ _ _ _ :: _) _ _; refine BigFrame.wpList_want rfl (fun K hK => ?_); refine o_alloc (z := ?_) rfl ?_ H rfl (fun w3 b2 he H2 => hK _ _ ?_); rotate_left 1; (focus (intro _; simp; with_reducible exact rfl))) | (guard_target =~ wpList _ _ _ (Oper.mk _ (.box _ _) _ _ _ _ :: _) _ _; refine BigFrame.wpList_want rfl (fun K hK => ?_); refine o_box rfl H rfl (fun w3 b2 he H2 => hK _ _ ?_)) | (guard_target =~ wpList _ _ _ (Oper.mk _ (.buildSlice _ _ _) _ _ _ _ :: _) _ _; refine BigFrame.wpList_want rfl (fun K hK => ?_); refine o_buildSlice (C := ?_) (E := ?_) rfl rfl H ?_ rfl (fun w3 b2 he H2 => hK _ _ ?_); rotate_left 2; (focus (intro _; simp [go_sem, Instr.buildSlice]; with_reducible exact rfl)))); clear hK K he; clear H; (try clear w2); revert w3; intro w2 H; (try simp [Act.eval, List.getD, cells_iV, iL_length, setL_i, setL_ii, agg_iL, cells_rV, rL_length, setL_r, setL_rr, agg_rL] at H); (try simp [Value.cells, setL, cells_iV, iL_length, setL_i, setL_ii, agg_iL, cells_rV, rL_length, setL_r, setL_rr, agg_rL] at H); (first | (clear tk0; rename Nat => c1) | (clear tk1; rename Nat => c2) | (clear tk2; rename Nat => c3) | (clear tk3; rename Nat => c4) | (skip)))); simp only [Act.put, List.setIfInBounds_toArray, List.set_cons_succ, List.set_cons_zero, cells_iV, iL_length, setL_i, setL_ii, agg_iL, cells_rV, rL_length, setL_r, setL_rr, agg_rL]))
        go_ret
        exact ⟨rfl, H.below⟩
    · obtain ⟨p2, q2, fv, rp2, rq2, hr2, hc⟩ := mul_back hf
      have hR2 := fun w => Right_any p2 q2 rp2 rq2 w
      have hD := fun w => ratDiv_any p2 q2 m e rp2 rq2 hm he w
      rw [fv, hf] at hM
      rw [hr2] at hR2
      clear fv hf hr2
      have hc2 : ∃ E P Q, divU p2 q2 m e = E ∧ divV p2 q2 m e = rV P Q ∧ ((E = 0 ∧ P = n ∧ Q = d) ∨ E = 3 ∨ E = 4) := by
        rcases hc with ⟨k1, k2⟩ | ⟨k1, p', q', k2⟩
        · exact ⟨_, _, _, k1, k2, .inl ⟨rfl, rfl, rfl⟩⟩
        · exact ⟨_, _, _, rfl, k2, .inr k1⟩
      obtain ⟨E2, P2, Q2, k1, k2, k4⟩ := hc2
      rw [k1, k2] at hD
      clear k1 k2 hc
      rcases k3 with ⟨rfl, rfl, rfl⟩ | rfl <;> rcases k4 with ⟨rfl, hp, hq⟩ | rfl | rfl
      all_goals
        (first | (rw [hp, hq] at hD; clear hp hq) | skip)
        go_enter Try.func30, Try.ntmps30
        have tk0 : True := trivial
        have tk1 : True := trivial
        have tk2 : True := trivial
        have tk3 : True := trivial
        go_wp2_with (first
          | go_big_skip
          | (go_at_call 60; (with_reducible refine (awake4_any _).mono ?_); rintro e w3 ⟨rfl, hb⟩; replace H := H.ext hb; clear hb; dsimp only)
          | (go_at_call 93; (with_reducible refine (hA _).mono ?_); rintro e w3 ⟨rfl, hb⟩; replace H := H.ext hb; clear hb; dsimp only)
          | (go_at_call 90; (with_reducible refine (hM _).mono ?_); rintro e w3 ⟨rfl, hb⟩; replace H := H.ext hb; clear hb; dsimp only)
          | (go_at_call 62; (with_reducible refine (hR _).mono ?_); rintro e w3 ⟨rfl, hb⟩; replace H := H.ext hb; clear hb; dsimp only)
          | (go_at_call 62; (with_reducible refine (hR2 _).mono ?_); rintro e w3 ⟨rfl, hb⟩; replace H := H.ext hb; clear hb; dsimp only)
          | (go_at_call 94; (with_reducible refine (hS _).mono ?_); rintro e w3 ⟨rfl, hb⟩; replace H := H.ext hb; clear hb; dsimp only)
          | (go_at_call 91; (with_reducible refine (hD _).mono ?_); rintro e w3 ⟨rfl, hb⟩; replace H := H.ext hb; clear hb; dsimp only)
          | (guard_target =~ wpList _ _ _ (_ :: _) _ _; (first | (guard_target =~ wpList _ _ _ (Oper.mk _ (.load _ _) _ _ _ _ :: _) _ _; refine BigFrame.wpList_want rfl (fun K hK => ?_); (first | (refine o_load (v := ?_) (r := ?_) rfl rfl H ?_ ?_ ?_ (hK _ _ ?_); rotate_left 2; (with_reducible assumption); (repeat first | exact .head _ | apply List.Mem.tail); (focus (intro _; simp [cells_iV, iL_length, setL_i, setL_ii, agg_iL, cells_rV, rL_length, setL_r, setL_rr, agg_rL]; done))) | (refine o_loadC (v := ?_) (row := ?_) rfl rfl H ?_ ?_ ?_ (hK _ _ ?_); rotate_left 2; (repeat first | exact .head _ | apply List.Mem.tail); (first | exact rfl | with_reducible assumption); (focus (intro _; simp [cells_iV, iL_length, setL_i, setL_ii, agg_iL, cells_rV, rL_length, setL_r, setL_rr, agg_rL]; done))) | (refine o_loadN (cs := ?_) (r := ?_) rfl rfl H ?_ ?_ ?_ ?_ (hK _ _ ?_); rotate_left 2; (with_reducible assumption); (repeat first | exact .head _ | apply List.Mem.tail); (focus (intro _; simp [cells_iV, iL_length, setL_i, setL_ii, agg_iL, cells_rV, rL_length, setL_r, setL_rr, agg_rL]; done)); (focus (intro _; simp [cells_iV, iL_length, setL_i, setL_ii, agg_iL, cells_rV, rL_length, setL_r, setL_rr, agg_rL]; done))) | (refine o_loadNC (row := ?_) rfl rfl H ?_ ?_ ?_ (hK _ _ ?_); rotate_left 1; (repeat first | exact .head _ | apply List.Mem.tail); (focus (intro _; simp [cells_iV, iL_length, setL_i, setL_ii, agg_iL, cells_rV, rL_length, setL_r, setL_rr, agg_rL]; done)); (focus (intro _; simp [cells_iV, iL_length, setL_i, setL_ii, agg_iL, cells_rV, rL_length, setL_r, setL_rr, agg_rL]; done)))); clear hK K) | (guard_target =~ wpList _ _ _ (Oper.mk _ (.store _ _ _) _ _ _ _ :: _) _ _; refine BigFrame.wpList_want rfl (fun K hK => ?_); refine o_store (l' := ?_) (row := ?_) rfl rfl H rfl ?_ ?_ ?_ ?_ (fun w3 H2 => hK _ _ ?_); rotate_left 2; (first | exact r0 | exact r1 | exact r2 | exact r3 | exact r4 | exact r5 | exact r6 | exact r7 | exact r8 | exact r9 | exact r10 | exact r11 | exact r12 | exact r13 | exact r14 | exact r15); (focus (intro _; (first | (simp [Act.eval, List.getD, cells_iV, iL_length, setL_i, setL_ii, agg_iL, cells_rV, rL_length, setL_r, setL_rr, agg_rL]; done) | (simp [Act.eval, Value.cells, List.getD, cells_iV, iL_length, setL_i, setL_ii, agg_iL, cells_rV, rL_length, setL_r, setL_rr, agg_rL]; done)))); (focus (first | (simp [Act.eval, List.getD, cells_iV, iL_length, setL_i, setL_ii, agg_iL, cells_rV, rL_length, setL_r, setL_rr, agg_rL]; done) | (simp [Act.eval, Value.cells, List.getD, cells_iV, iL_length, setL_i, setL_ii, agg_iL, cells_rV, rL_length, setL_r, setL_rr, agg_rL]; done) | ((try simp [Act.eval, List.getD, cells_iV, iL_length, setL_i, setL_ii, agg_iL, cells_rV, rL_length, setL_r, setL_rr, agg_rL]); omega) | ((try simp [Act.eval, Value.cells, List.getD, cells_iV, iL_length, setL_i, setL_ii, agg_iL, cells_rV, rL_length, setL_r, setL_rr, agg_rL]); omega))); (first | exact rfl | (focus ((first | (simp [Act.eval, List.getD, cells_iV, iL_length, setL_i, setL_ii, agg_iL, cells_rV, rL_length, setL_r, setL_rr, agg_rL]; done) | (simp [Act.eval, Value.cells, List.getD, cells_iV, iL_length, setL_i, setL_ii, agg_iL, cells_rV, rL_length, setL_r, setL_rr, agg_rL]; done))))); clear hK K; clear H; (try clear w2); revert w3; intro w2 H; (try simp [Act.eval, List.getD, cells_iV, iL_length, setL_i, setL_ii, agg_iL, cells_rV, rL_length, setL_r, setL_rr, agg_rL] at H); (try simp [Value.cells, setL, cells_iV, iL_length, setL_i, setL_ii, agg_iL, cells_rV, rL_length, setL_r, setL_rr, agg_rL] at H)) | ((first | (guard_target =~ wpList _ _ _ (Oper.mk _ (.alloc _) _ _ _ _ :: _) _ _; refine BigFrame.wpList_want rfl (fun K hK => ?_); refine o_alloc (z := ?_) rfl ?_ H rfl (fun w3 b2 he H2 => hK _ _ ?_); rotate_left 1; (focus (intro _; simp; with_reducible exact rfl))) | (guard_target =~ wpList _ _ _ (Oper.mk _ (.box _ _) _ _ _ _ :: _) _ _; refine BigFrame.wpList_want rfl (fun K hK => ?_); refine o_box rfl H rfl (fun w3 b2 he H2 => hK _ _ ?_)) | (guard_target =~ wpList _ _ _ (Oper.mk _ (.buildSlice _ _ _) _ _ _ _ :: _) _ _; refine BigFrame.wpList_want rfl (fun K hK => ?_); refine o_buildSlice (C := ?_) (E := ?_) rfl rfl H ?_ rfl (fun w3 b2 he H2 => hK _ _ ?_); rotate_left 2; (focus (intro _; simp [go_sem, Instr.buildSlice]; with_reducible exact rfl)))); clear hK K he; clear H; (try clear w2); revert w3; intro w2 H; (try simp [Act.eval, List.getD, cells_iV, iL_length, setL_i, setL_ii, agg_iL, cells_rV, rL_length, setL_r, setL_rr, agg_rL] at H); (try simp [Value.cells, setL, cells_iV, iL_length, setL_i, setL_ii, agg_iL, cells_rV, rL_length, setL_r, setL_rr, agg_rL] at H); (first | (clear tk0; rename Nat => c1) | (clear tk1; rename Nat => c2) | (clear tk2; rename Nat => c3) | (clear tk3; rename Nat => c4) | (skip)))); simp only [Act.put, List.setIfInBounds_toArray, List.set_cons_succ, List.set_cons_zero, cells_iV, iL_length, setL_i, setL_ii, agg_iL, cells_rV, rL_length, setL_r, setL_rr, agg_rL]))
        go_ret
        exact ⟨rfl, H.below⟩
end Go.Proofs.Ytdgpdafkngoegaa
