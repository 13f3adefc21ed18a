/-
  The walks of the document's layer 4: a fraction, made.
-/
import Derived.Test.YtmmieilogpmocaaMa5fd2fde
import Derived.Test.YtmmieilogpmocaaRef03i
import Derived.Test.YtmmieilogpmocaaRat3
import Derived.Test.YtmmieilogpmocaaRef03g
import Derived.Test.YtmmieilogpmocaaRef03p
import Derived.Test.YtmmieilogpmocaaRef03d
import Derived.Test.YtmmieilogpmocaaLaw04a
import Derived.Test.YtmmieilogpmocaaFrac
import Derived.Test.YtmmieilogpmocaaRat5
import Derived.Test.YtmmieilogpmocaaBase
import Derived.ChangeArms
import Derived.Test.YtmmieilogpmocaaSigns
namespace Go.Proofs.Ytmmieilogpmocaa
set_option linter.unusedVariables false
set_option linter.unusedSimpArgs false
open Go.RowKit

theorem rat2_ref : Rat2 31 23 := ⟨by kernel_rfl, by kernel_rfl, by kernel_rfl, fun w => by kernel_rfl, fun w => by kernel_rfl, fun w => by kernel_rfl⟩
theorem build_q (n d : Int) (w : World) : (Instr.build 31 #[(0, iV n), (1, iV d)]).run Try.prog w = .ok (rV n d) w := by
  have hz : ∀ w, (zeroValue 31).run Try.prog w = .ok (rV 0 0) w := fun w => by rw [rV_zero]; kernel_rfl
  have hm : ∀ w, ((Try.prog.fieldsOf 31).mapM fun f => do pure (f.offset, ← sizeOf f.type) : Sem _).run Try.prog w = .ok #[(0, 4), (4, 4)] w := fun w => by kernel_rfl
  unfold Instr.build
  simp only [Sem.run_bind, hz, Result.andThen_ok, run_underlying rat2_ref.und, hm]
  have h := fill_two (.int .u64 (n % 18446744073709551616)) (.int .u64 (n / 18446744073709551616 % 18446744073709551616)) (.int .u64 (n / 340282366920938463463374607431768211456 % 18446744073709551616)) (.int .u64 (n / 6277101735386680763835789423207666416102355444464034512896 % 18446744073709551616))
    (.int .u64 (d % 18446744073709551616)) (.int .u64 (d / 18446744073709551616 % 18446744073709551616)) (.int .u64 (d / 340282366920938463463374607431768211456 % 18446744073709551616)) (.int .u64 (d / 6277101735386680763835789423207666416102355444464034512896 % 18446744073709551616)) (.int .u64 0) (.int .u64 0) (.int .u64 0) (.int .u64 0) (.int .u64 0) (.int .u64 0) (.int .u64 0) (.int .u64 0)
  rw [rV_zero]
  unfold iV
  simp only [Value.cells, h, Array.toList]
  rfl
theorem build_q0 (w : World) : (Instr.build 31 #[]).run Try.prog w = .ok (rV 0 0) w := by
  rw [rV_zero]; kernel_rfl
theorem Sl.more {F : Nat → Prop} {w : World} {l : List Res} {A : Option Addr} {xs : List Value} {r : Res} (h : Sl (FW F l) w A xs) (hr : r.ro = true) : Sl (FW F (r :: l)) w A xs := h.fewer fun k hk => by
  rcases hk with hk | ⟨q, hq, hro, hf⟩
  · exact .inl hk
  · rcases List.mem_cons.1 hq with h1 | h1
    · rw [h1, hr] at hro; cases hro
    · exact .inr ⟨q, h1, hro, hf⟩
theorem neg_of_sign {x y : Int} (h : signZ x = signZ y) : decide (x < 0) = decide (y < 0) := by
  unfold signZ at h
  by_cases hx : x < 0 <;> by_cases hy : y < 0 <;> simp only [hx, hy, if_true, if_false, decide_true, decide_false] at h ⊢ <;> (split at h <;> omega)
theorem gcd_wide {n d : Int} (hn : R256 n) (hd : R256 d) (z : Nat) (ez : gcdZ n d = (z : Int)) : R512 (z : Int) := by
  rw [← ez]
  unfold R512 gcdZ
  rw [Int.natAbs_natCast]
  by_cases h : n = 0
  · subst h
    rw [Int.gcd_zero_left]
    have := abs256 hd
    omega
  · have h1 : Int.gcd n d ≤ n.natAbs := Nat.le_of_dvd (Int.natAbs_pos.mpr h) (Nat.gcd_dvd_left _ _)
    have := abs256 hn
    omega
theorem tdiv_512 {x y : Int} (hx : R256 x) : R512 (x.tdiv y) := by
  have h1 := abs256 hx
  have h2 : (x.tdiv y).natAbs ≤ x.natAbs := by rw [Int.natAbs_tdiv]; exact Nat.div_le_self _ _
  unfold R512
  omega
set_option maxRecDepth 100000 in
set_option maxHeartbeats 16000000 in
theorem refMade_any (F : Nat → Prop) (w : World) (hF : ∀ k, F k → k < w.heap.size) (A1 A2 : Option Addr) (c1 c2 : Nat) (a b : List Nat) (n d : Int) (hn : R256 n) (hd : R256 d) (h0 : d ≠ 0) (ha : Sl F w A1 (dl a)) (hb : Sl F w A2 (dl b)) (ga : CnI a n) (gb : CnI b d)
    (ma : a.length ≤ c1) (mb : b.length ≤ c2) (ma2 : c1 ≤ maxLen) (mb2 : c2 ≤ maxLen) :
    Calls Try.prog 57 #[.agg #[.bool (decide (n < 0)), .slice A1 a.length c1], .agg #[.bool (decide (d < 0)), .slice A2 b.length c2]] w fun e w' => e = .returned (.tuple #[mkV n d, .int .i64 (mkE n d)]) ∧ Below w.heap.size w w' := by
  obtain ⟨b2, o2, H2, f2⟩ := (Own.start w).addSl (hb.ro (by rfl))
  obtain ⟨b1, o1, H, f1⟩ := H2.addSl (ha.ro (by rfl))
  clear ha hb H2
  obtain ⟨z, hz⟩ : ∃ z : Nat, Nat.gcd n.natAbs d.natAbs = z := ⟨_, rfl⟩
  have ez : gcdZ n d = (z : Int) := congrArg _ hz
  have zp := gcd_pos (n := n) h0
  rw [ez] at zp
  have wz := gcd_wide hn hd z ez
  have hG := fun F w hF A1 A2 k1 k2 a b ha hb ga gb => refGcd_any F w hF A1 A2 k1 k2 a b n d (decide (n < 0)) (decide (d < 0)) ha hb ga gb (fit450 hn ga) (fit450 hd gb)
  rw [hz] at hG
  have hWg := fun F w hF A c l ha g => refWords_any F w hF A c l (z : Int) ha g (fit1000 wz g)
  have hDn := fun F w hF A1 A2 k1 k2 a b ha hb ga gb ma mb ma2 mb2 => refDiv_any F w hF A1 A2 k1 k2 a b n (z : Int) ha hb ga gb (fit450 hn ga) (Nat.le_trans (fit32 wz gb) (by decide)) ma mb ma2 mb2 (by omega)
  have hDd := fun F w hF A1 A2 k1 k2 a b ha hb ga gb ma mb ma2 mb2 => refDiv_any F w hF A1 A2 k1 k2 a b d (z : Int) ha hb ga gb (fit450 hd ga) (Nat.le_trans (fit32 wz gb) (by decide)) ma mb ma2 mb2 (by omega)
  rw [natneg] at hWg hDn hDd
  have hNp := fun F w hF A c l ha g => refNeg_any F w hF A c l (n.tdiv z) ha g (fit1000 (tdiv_512 hn) g)
  have hNq := fun F w hF A c l ha g => refNeg_any F w hF A c l (d.tdiv z) ha g (fit1000 (tdiv_512 hd) g)
  have hsg := sign_tdiv (n := n) h0
  rw [ez] at hsg
  have fin : ∀ N D : Int, mkN n d = N → mkD n d = D → ∃ v1 v2 v3, decide (R256 (z : Int)) = v1 ∧ decide (R256 N) = v2 ∧ decide (R256 D) = v3 ∧
      ((v1 = true ∧ v2 = true ∧ v3 = true ∧ mkE n d = 0 ∧ mkV n d = rV N D ∧ fitZ N = N ∧ fitZ D = D) ∨ ((v1 = false ∨ (v1 = true ∧ v2 = false) ∨ (v1 = true ∧ v2 = true ∧ v3 = false)) ∧ mkE n d = 3 ∧ mkV n d = rV 0 0)) := by
    intro N D e1 e2
    refine ⟨_, _, _, rfl, rfl, rfl, ?_⟩
    unfold mkV mkE
    rw [if_neg h0, e1, e2, ez]
    by_cases k1 : R256 (z : Int) <;> by_cases k2 : R256 N <;> by_cases k3 : R256 D <;> simp [k1, k2, k3, fitZ]
  rcases Int.lt_trichotomy d 0 with h | h | h
  · obtain ⟨v1, v2, v3, e1, e2, e3, hv⟩ := fin (-(n.tdiv z)) (-(d.tdiv z)) (by unfold mkN; rw [if_pos h, ez]) (by unfold mkD; rw [if_pos h, ez])
    have hq : decide (d.tdiv z < 0) = true := by
      rw [neg_of_sign hsg]; simpa using h
    have hWN := fun F w hF A c l ha g => refWords_any F w hF A c l (-(n.tdiv z)) ha g (fit1000 (wide_neg (tdiv_512 hn)) g)
    have hWD := fun F w hF A c l ha g => refWords_any F w hF A c l (-(d.tdiv z)) ha g (fit1000 (wide_neg (tdiv_512 hd)) g)
    unfold RetN2 at hDd
    rw [hq] at hDd hNq
    rw [e1] at hWg
    rw [e2] at hWN
    rw [e3] at hWD
    clear fin hsg e1 e2 e3 h h0 hq zp wz ez hz
    generalize -(n.tdiv z) = N at *
    generalize -(d.tdiv z) = D at *
    rcases hv with ⟨rfl, rfl, rfl, hE, hV, eN, eD⟩ | ⟨hv, hE, hV⟩
    · rw [hE, hV]
      rw [eN] at hWN
      rw [eD] at hWD
      clear hE hV eN eD
      go_enter Try.func57, Try.ntmps57
      have tk0 : True := trivial
      have tk1 : True := trivial
      have tk2 : True := trivial
      have tk3 : True := trivial
      have tk4 : True := trivial
      have tk5 : True := trivial
      have tk6 : True := trivial
      go_wp2_with (first
        | (guard_target =~ bodyPost _ _ _ _ _ _; refine Stopped.out ?_)
        | (go_at_call 65; (with_reducible refine (hG (FW F _) _ (H.fw_lt rfl hF) _ _ _ _ a b (by exact H.giveRd m3 f1) (by exact H.giveRd m4 f2) ga gb ma mb ma2 mb2).mono ?_); rintro e w3 ⟨A5, k5, l5, rfl, hb, s5, g5, q5, p5⟩; replace H := H.ext hb; clear hb; obtain ⟨b5, o5, H4, f5⟩ := H.addSl s5; clear H s5; have H := H4; clear H4; dsimp only)
        | (go_at_call 71; (with_reducible refine (hWg (FW F _) _ (H.fw_lt rfl hF) _ _ l5 (by first | exact H.giveRd m1 f5 | exact H.giveRd m6 f5 | exact H.giveRd m7 f5) g5 q5 p5).mono ?_); rintro e w3 ⟨rfl, hb⟩; replace H := H.ext hb; clear hb; dsimp only)
        | (go_at_call 69; (with_reducible refine (hDn (FW F _) _ (H.fw_lt rfl hF) _ _ _ _ a l5 (by first | exact H.giveRd m6 f1 | exact H.giveRd m7 f1) (by first | exact H.giveRd m2 f5 | exact H.giveRd m3 f5) ga g5 ma q5 ma2 p5).mono ?_); rintro e w3 ⟨A6, k6, l6, A7, k7, l7, rfl, hb, s6, g6, q6, p6, _, _, _, _⟩; replace H := H.ext hb; clear hb; obtain ⟨b6, o6, H4, f6⟩ := H.addSl s6; clear H s6; have H := H4; clear H4; dsimp only)
        | (go_at_call 69; (with_reducible refine (hDd (FW F _) _ (H.fw_lt rfl hF) _ _ _ _ b l5 (by exact H.giveRd m8 f2) (by exact H.giveRd m3 f5) gb g5 mb q5 mb2 p5).mono ?_); rintro e w3 ⟨A8, k8, l8, A9, k9, l9, rfl, hb, s8, g8, q8, p8, _, _, _, _⟩; replace H := H.ext hb; clear hb; obtain ⟨b8, o8, H4, f8⟩ := H.addSl s8; clear H s8; have H := H4; clear H4; dsimp only)
        | (go_at_call 81; (with_reducible refine (hNp (FW F _) _ (H.fw_lt rfl hF) _ _ l6 (by first | exact H.giveRd m1 f6 | exact H.giveRd m2 f6) g6 q6 p6).mono ?_); rintro e w3 ⟨A10, k10, l10, rfl, hb, s10, g10, q10, p10⟩; replace H := H.ext hb; clear hb; obtain ⟨b10, o10, H4, f10⟩ := H.addSl s10; clear H s10; have H := H4; clear H4; dsimp only)
        | (go_at_call 81; (with_reducible refine (hNq (FW F _) _ (H.fw_lt rfl hF) _ _ l8 (by exact H.giveRd m1 f8) g8 q8 p8).mono ?_); rintro e w3 ⟨A11, k11, l11, rfl, hb, s11, g11, q11, p11⟩; replace H := H.ext hb; clear hb; obtain ⟨b11, o11, H4, f11⟩ := H.addSl s11; clear H s11; have H := H4; clear H4; dsimp only)
        | (go_at_call 71; (with_reducible refine (hWN (FW F _) _ (H.fw_lt rfl hF) _ _ l10 (by first | exact H.giveRd m1 f10 | exact H.giveRd m2 f10) g10 q10 p10).mono ?_); rintro e w3 ⟨rfl, hb⟩; replace H := H.ext hb; clear hb; dsimp only)
        | (go_at_call 71; (with_reducible refine (hWD (FW F _) _ (H.fw_lt rfl hF) _ _ l11 (by exact H.giveRd m1 f11) g11 q11 p11).mono ?_); rintro e w3 ⟨rfl, hb⟩; replace H := H.ext hb; clear hb; dsimp only)
        | (guard_target =~ wpList _ _ _ (_ :: _) _ _; (first | (guard_target =~ wpList _ _ _ (Oper.mk _ (.load _ _) _ _ _ _ :: _) _ _; refine BigFrame.wpList_want rfl (fun K hK => ?_); (first | (refine o_loadC (v := ?_) (row := ?_) rfl rfl H ?_ ?_ ?_ (hK _ _ ?_); rotate_left 2; (repeat first | exact .head _ | apply List.Mem.tail); (exact rfl); (focus (intro _; simp [cells_iV, iL_length, setL_i, setL_ii, agg_iL, cells_rV, rL_length, setL_r, setL_rr, agg_rL]; done))) | (refine o_loadNC (row := ?_) rfl rfl H ?_ ?_ ?_ (hK _ _ ?_); rotate_left 1; (repeat first | exact .head _ | apply List.Mem.tail); (focus (intro _; simp [cells_iV, iL_length, setL_i, setL_ii, agg_iL, cells_rV, rL_length, setL_r, setL_rr, agg_rL]; done)); (focus (intro _; simp [cells_iV, iL_length, setL_i, setL_ii, agg_iL, cells_rV, rL_length, setL_r, setL_rr, agg_rL]; done)))); clear hK K) | (guard_target =~ wpList _ _ _ (Oper.mk _ (.build _ _) _ _ _ _ :: _) _ _; refine BigFrame.wpList_want rfl (fun K hK => ?_); (refine o_build (v := ?_) (ps := ?_) rfl ?_ ?_ (hK _ _ ?_); rotate_left 2; (focus (simp [Act.eval]; with_reducible exact rfl)); (focus (intro w4; with_reducible exact build_q _ _ w4))); clear hK K) | (guard_target =~ wpList _ _ _ (Oper.mk _ (.store _ _ _) _ _ _ _ :: _) _ _; refine BigFrame.wpList_want rfl (fun K hK => ?_); refine o_store (l' := ?_) (row := ?_) rfl rfl H rfl ?_ ?_ ?_ ?_ (fun w3 H2 => hK _ _ ?_); rotate_left 2; (first | exact r0 | exact r6 | exact r8 | exact r9); (focus (intro _; (first | (simp [Act.eval, List.getD, cells_iV, iL_length, setL_i, setL_ii, agg_iL, cells_rV, rL_length, setL_r, setL_rr, agg_rL]; done) | (simp [Act.eval, Value.cells, List.getD, cells_iV, iL_length, setL_i, setL_ii, agg_iL, cells_rV, rL_length, setL_r, setL_rr, agg_rL]; done)))); (focus (first | (simp [Act.eval, List.getD, cells_iV, iL_length, setL_i, setL_ii, agg_iL, cells_rV, rL_length, setL_r, setL_rr, agg_rL]; done) | (simp [Act.eval, Value.cells, List.getD, cells_iV, iL_length, setL_i, setL_ii, agg_iL, cells_rV, rL_length, setL_r, setL_rr, agg_rL]; done))); (exact rfl); clear hK K; clear H; (try clear w2); revert w3; intro w2 H; (try simp [Act.eval, List.getD, cells_iV, iL_length, setL_i, setL_ii, agg_iL, cells_rV, rL_length, setL_r, setL_rr, agg_rL] at H); (try simp [Value.cells, setL, cells_iV, iL_length, setL_i, setL_ii, agg_iL, cells_rV, rL_length, setL_r, setL_rr, agg_rL] at H)) | ((first | (guard_target =~ wpList _ _ _ (Oper.mk _ (.alloc _) _ _ _ _ :: _) _ _; refine BigFrame.wpList_want rfl (fun K hK => ?_); refine o_alloc (z := ?_) rfl ?_ H rfl (fun w3 b2 he H2 => hK _ _ ?_); rotate_left 1; (focus (intro _; simp; with_reducible exact rfl))) | (guard_target =~ wpList _ _ _ (Oper.mk _ (.box _ _) _ _ _ _ :: _) _ _; refine BigFrame.wpList_want rfl (fun K hK => ?_); refine o_box rfl H rfl (fun w3 b2 he H2 => hK _ _ ?_))); clear hK K he; clear H; (try clear w2); revert w3; intro w2 H; (try simp [Act.eval, List.getD, cells_iV, iL_length, setL_i, setL_ii, agg_iL, cells_rV, rL_length, setL_r, setL_rr, agg_rL] at H); (try simp [Value.cells, setL, cells_iV, iL_length, setL_i, setL_ii, agg_iL, cells_rV, rL_length, setL_r, setL_rr, agg_rL] at H); (first | (clear tk0; rename Nat => c1) | (clear tk1; rename Nat => c2) | (clear tk2; rename Nat => c3) | (clear tk3; rename Nat => c4) | (clear tk4; rename Nat => c5) | (clear tk5; rename Nat => c6) | (clear tk6; rename Nat => c7)))); simp only [Act.put, List.setIfInBounds_toArray, List.set_cons_succ, List.set_cons_zero, cells_iV, iL_length, setL_i, setL_ii, agg_iL, cells_rV, rL_length, setL_r, setL_rr, agg_rL]))
      have hr := H.loadVarN (P := Try.prog) (ty := 31) (b := c3) (row := rL N D) (by simp) (by simp) (by simp [rL_length])
      exact ⟨bodyPost_ret (v := .tuple #[rV N D, .int .i64 0]) (by simp [results, Try.results57, asAddr, hr, agg_rL]) rfl ⟨rfl, H.below⟩⟩
    · rw [hE, hV]
      clear hE hV
      rcases hv with rfl | ⟨rfl, rfl⟩ | ⟨rfl, rfl, rfl⟩
      all_goals
       go_enter Try.func57, Try.ntmps57
       have tk0 : True := trivial
       have tk1 : True := trivial
       have tk2 : True := trivial
       have tk3 : True := trivial
       have tk4 : True := trivial
       have tk5 : True := trivial
       have tk6 : True := trivial
       go_wp2_with (first
         | (guard_target =~ bodyPost _ _ _ _ _ _; refine Stopped.out ?_)
         | (go_at_call 65; (with_reducible refine (hG (FW F _) _ (H.fw_lt rfl hF) _ _ _ _ a b (by exact H.giveRd m3 f1) (by exact H.giveRd m4 f2) ga gb ma mb ma2 mb2).mono ?_); rintro e w3 ⟨A5, k5, l5, rfl, hb, s5, g5, q5, p5⟩; replace H := H.ext hb; clear hb; obtain ⟨b5, o5, H4, f5⟩ := H.addSl s5; clear H s5; have H := H4; clear H4; dsimp only)
         | (go_at_call 71; (with_reducible refine (hWg (FW F _) _ (H.fw_lt rfl hF) _ _ l5 (by first | exact H.giveRd m1 f5 | exact H.giveRd m6 f5 | exact H.giveRd m7 f5) g5 q5 p5).mono ?_); rintro e w3 ⟨rfl, hb⟩; replace H := H.ext hb; clear hb; dsimp only)
         | (go_at_call 69; (with_reducible refine (hDn (FW F _) _ (H.fw_lt rfl hF) _ _ _ _ a l5 (by first | exact H.giveRd m6 f1 | exact H.giveRd m7 f1) (by first | exact H.giveRd m2 f5 | exact H.giveRd m3 f5) ga g5 ma q5 ma2 p5).mono ?_); rintro e w3 ⟨A6, k6, l6, A7, k7, l7, rfl, hb, s6, g6, q6, p6, _, _, _, _⟩; replace H := H.ext hb; clear hb; obtain ⟨b6, o6, H4, f6⟩ := H.addSl s6; clear H s6; have H := H4; clear H4; dsimp only)
         | (go_at_call 69; (with_reducible refine (hDd (FW F _) _ (H.fw_lt rfl hF) _ _ _ _ b l5 (by exact H.giveRd m8 f2) (by exact H.giveRd m3 f5) gb g5 mb q5 mb2 p5).mono ?_); rintro e w3 ⟨A8, k8, l8, A9, k9, l9, rfl, hb, s8, g8, q8, p8, _, _, _, _⟩; replace H := H.ext hb; clear hb; obtain ⟨b8, o8, H4, f8⟩ := H.addSl s8; clear H s8; have H := H4; clear H4; dsimp only)
         | (go_at_call 81; (with_reducible refine (hNp (FW F _) _ (H.fw_lt rfl hF) _ _ l6 (by first | exact H.giveRd m1 f6 | exact H.giveRd m2 f6) g6 q6 p6).mono ?_); rintro e w3 ⟨A10, k10, l10, rfl, hb, s10, g10, q10, p10⟩; replace H := H.ext hb; clear hb; obtain ⟨b10, o10, H4, f10⟩ := H.addSl s10; clear H s10; have H := H4; clear H4; dsimp only)
         | (go_at_call 81; (with_reducible refine (hNq (FW F _) _ (H.fw_lt rfl hF) _ _ l8 (by exact H.giveRd m1 f8) g8 q8 p8).mono ?_); rintro e w3 ⟨A11, k11, l11, rfl, hb, s11, g11, q11, p11⟩; replace H := H.ext hb; clear hb; obtain ⟨b11, o11, H4, f11⟩ := H.addSl s11; clear H s11; have H := H4; clear H4; dsimp only)
         | (go_at_call 71; (with_reducible refine (hWN (FW F _) _ (H.fw_lt rfl hF) _ _ l10 (by first | exact H.giveRd m1 f10 | exact H.giveRd m2 f10) g10 q10 p10).mono ?_); rintro e w3 ⟨rfl, hb⟩; replace H := H.ext hb; clear hb; dsimp only)
         | (go_at_call 71; (with_reducible refine (hWD (FW F _) _ (H.fw_lt rfl hF) _ _ l11 (by exact H.giveRd m1 f11) g11 q11 p11).mono ?_); rintro e w3 ⟨rfl, hb⟩; replace H := H.ext hb; clear hb; dsimp only)
         | (guard_target =~ wpList _ _ _ (_ :: _) _ _; (first | (guard_target =~ wpList _ _ _ (Oper.mk _ (.load _ _) _ _ _ _ :: _) _ _; refine BigFrame.wpList_want rfl (fun K hK => ?_); (first | (refine o_loadC (v := ?_) (row := ?_) rfl rfl H ?_ ?_ ?_ (hK _ _ ?_); rotate_left 2; (repeat first | exact .head _ | apply List.Mem.tail); (exact rfl); (focus (intro _; simp [cells_iV, iL_length, setL_i, setL_ii, agg_iL, cells_rV, rL_length, setL_r, setL_rr, agg_rL]; done))) | (refine o_loadNC (row := ?_) rfl rfl H ?_ ?_ ?_ (hK _ _ ?_); rotate_left 1; (repeat first | exact .head _ | apply List.Mem.tail); (focus (intro _; simp [cells_iV, iL_length, setL_i, setL_ii, agg_iL, cells_rV, rL_length, setL_r, setL_rr, agg_rL]; done)); (focus (intro _; simp [cells_iV, iL_length, setL_i, setL_ii, agg_iL, cells_rV, rL_length, setL_r, setL_rr, agg_rL]; done)))); clear hK K) | (guard_target =~ wpList _ _ _ (Oper.mk _ (.build _ _) _ _ _ _ :: _) _ _; refine BigFrame.wpList_want rfl (fun K hK => ?_); (refine o_build (v := ?_) (ps := ?_) rfl ?_ ?_ (hK _ _ ?_); rotate_left 2; (focus (simp [Act.eval]; with_reducible exact rfl)); (focus (intro w4; with_reducible exact build_q0 w4))); clear hK K) | (guard_target =~ wpList _ _ _ (Oper.mk _ (.store _ _ _) _ _ _ _ :: _) _ _; refine BigFrame.wpList_want rfl (fun K hK => ?_); refine o_store (l' := ?_) (row := ?_) rfl rfl H rfl ?_ ?_ ?_ ?_ (fun w3 H2 => hK _ _ ?_); rotate_left 2; (first | exact r0 | exact r6 | exact r8 | exact r9); (focus (intro _; (first | (simp [Act.eval, List.getD, cells_iV, iL_length, setL_i, setL_ii, agg_iL, cells_rV, rL_length, setL_r, setL_rr, agg_rL]; done) | (simp [Act.eval, Value.cells, List.getD, cells_iV, iL_length, setL_i, setL_ii, agg_iL, cells_rV, rL_length, setL_r, setL_rr, agg_rL]; done)))); (focus (first | (simp [Act.eval, List.getD, cells_iV, iL_length, setL_i, setL_ii, agg_iL, cells_rV, rL_length, setL_r, setL_rr, agg_rL]; done) | (simp [Act.eval, Value.cells, List.getD, cells_iV, iL_length, setL_i, setL_ii, agg_iL, cells_rV, rL_length, setL_r, setL_rr, agg_rL]; done))); (exact rfl); clear hK K; clear H; (try clear w2); revert w3; intro w2 H; (try simp [Act.eval, List.getD, cells_iV, iL_length, setL_i, setL_ii, agg_iL, cells_rV, rL_length, setL_r, setL_rr, agg_rL] at H); (try simp [Value.cells, setL, cells_iV, iL_length, setL_i, setL_ii, agg_iL, cells_rV, rL_length, setL_r, setL_rr, agg_rL] at H)) | ((first | (guard_target =~ wpList _ _ _ (Oper.mk _ (.alloc _) _ _ _ _ :: _) _ _; refine BigFrame.wpList_want rfl (fun K hK => ?_); refine o_alloc (z := ?_) rfl ?_ H rfl (fun w3 b2 he H2 => hK _ _ ?_); rotate_left 1; (focus (intro _; simp; with_reducible exact rfl))) | (guard_target =~ wpList _ _ _ (Oper.mk _ (.box _ _) _ _ _ _ :: _) _ _; refine BigFrame.wpList_want rfl (fun K hK => ?_); refine o_box rfl H rfl (fun w3 b2 he H2 => hK _ _ ?_))); clear hK K he; clear H; (try clear w2); revert w3; intro w2 H; (try simp [Act.eval, List.getD, cells_iV, iL_length, setL_i, setL_ii, agg_iL, cells_rV, rL_length, setL_r, setL_rr, agg_rL] at H); (try simp [Value.cells, setL, cells_iV, iL_length, setL_i, setL_ii, agg_iL, cells_rV, rL_length, setL_r, setL_rr, agg_rL] at H); (first | (clear tk0; rename Nat => c1) | (clear tk1; rename Nat => c2) | (clear tk2; rename Nat => c3) | (clear tk3; rename Nat => c4) | (clear tk4; rename Nat => c5) | (clear tk5; rename Nat => c6) | (clear tk6; rename Nat => c7)))); simp only [Act.put, List.setIfInBounds_toArray, List.set_cons_succ, List.set_cons_zero, cells_iV, iL_length, setL_i, setL_ii, agg_iL, cells_rV, rL_length, setL_r, setL_rr, agg_rL]))
       have hr := H.loadVarN (P := Try.prog) (ty := 31) (b := c3) (row := rL 0 0) (by simp) (by simp) (by simp [rL_length])
       exact ⟨bodyPost_ret (v := .tuple #[rV 0 0, .int .i64 3]) (by simp [results, Try.results57, asAddr, hr, agg_rL]) rfl ⟨rfl, H.below⟩⟩
  · exact absurd h h0
  · obtain ⟨v1, v2, v3, e1, e2, e3, hv⟩ := fin (n.tdiv z) (d.tdiv z) (by unfold mkN; rw [if_neg (by omega), ez]) (by unfold mkD; rw [if_neg (by omega), ez])
    have hq : decide (d.tdiv z < 0) = false := by
      rw [neg_of_sign hsg]; simp; omega
    have hWN := fun F w hF A c l ha g => refWords_any F w hF A c l (n.tdiv z) ha g (fit1000 (tdiv_512 hn) g)
    have hWD := fun F w hF A c l ha g => refWords_any F w hF A c l (d.tdiv z) ha g (fit1000 (tdiv_512 hd) g)
    unfold RetN2 at hDd
    rw [hq] at hDd hWD
    rw [e1] at hWg
    rw [e2] at hWN
    rw [e3] at hWD
    clear fin hsg e1 e2 e3 h h0 hq zp wz ez hz hNp hNq
    generalize n.tdiv z = N at *
    generalize d.tdiv z = D at *
    rcases hv with ⟨rfl, rfl, rfl, hE, hV, eN, eD⟩ | ⟨hv, hE, hV⟩
    · rw [hE, hV]
      rw [eN] at hWN
      rw [eD] at hWD
      clear hE hV eN eD
      go_enter Try.func57, Try.ntmps57
      have tk0 : True := trivial
      have tk1 : True := trivial
      have tk2 : True := trivial
      have tk3 : True := trivial
      have tk4 : True := trivial
      have tk5 : True := trivial
      have tk6 : True := trivial
      go_wp2_with (first
        | (guard_target =~ bodyPost _ _ _ _ _ _; refine Stopped.out ?_)
        | (go_at_call 65; (with_reducible refine (hG (FW F _) _ (H.fw_lt rfl hF) _ _ _ _ a b (by exact H.giveRd m3 f1) (by exact H.giveRd m4 f2) ga gb ma mb ma2 mb2).mono ?_); rintro e w3 ⟨A5, k5, l5, rfl, hb, s5, g5, q5, p5⟩; replace H := H.ext hb; clear hb; obtain ⟨b5, o5, H4, f5⟩ := H.addSl s5; clear H s5; have H := H4; clear H4; dsimp only)
        | (go_at_call 71; (with_reducible refine (hWg (FW F _) _ (H.fw_lt rfl hF) _ _ l5 (by first | exact H.giveRd m1 f5 | exact H.giveRd m4 f5 | exact H.giveRd m5 f5) g5 q5 p5).mono ?_); rintro e w3 ⟨rfl, hb⟩; replace H := H.ext hb; clear hb; dsimp only)
        | (go_at_call 69; (with_reducible refine (hDn (FW F _) _ (H.fw_lt rfl hF) _ _ _ _ a l5 (by first | exact H.giveRd m6 f1 | exact H.giveRd m7 f1) (by first | exact H.giveRd m2 f5 | exact H.giveRd m3 f5) ga g5 ma q5 ma2 p5).mono ?_); rintro e w3 ⟨A6, k6, l6, A7, k7, l7, rfl, hb, s6, g6, q6, p6, _, _, _, _⟩; replace H := H.ext hb; clear hb; obtain ⟨b6, o6, H4, f6⟩ := H.addSl s6; clear H s6; have H := H4; clear H4; dsimp only)
        | (go_at_call 69; (with_reducible refine (hDd (FW F _) _ (H.fw_lt rfl hF) _ _ _ _ b l5 (by exact H.giveRd m8 f2) (by exact H.giveRd m3 f5) gb g5 mb q5 mb2 p5).mono ?_); rintro e w3 ⟨A8, k8, l8, A9, k9, l9, rfl, hb, s8, g8, q8, p8, _, _, _, _⟩; replace H := H.ext hb; clear hb; obtain ⟨b8, o8, H4, f8⟩ := H.addSl s8; clear H s8; have H := H4; clear H4; dsimp only)
        | (go_at_call 71; (with_reducible refine (hWN (FW F _) _ (H.fw_lt rfl hF) _ _ l6 (by first | exact H.giveRd m1 f6 | exact H.giveRd m2 f6) g6 q6 p6).mono ?_); rintro e w3 ⟨rfl, hb⟩; replace H := H.ext hb; clear hb; dsimp only)
        | (go_at_call 71; (with_reducible refine (hWD (FW F _) _ (H.fw_lt rfl hF) _ _ l8 (by exact H.giveRd m1 f8) g8 q8 p8).mono ?_); rintro e w3 ⟨rfl, hb⟩; replace H := H.ext hb; clear hb; dsimp only)
        | (guard_target =~ wpList _ _ _ (_ :: _) _ _; (first | (guard_target =~ wpList _ _ _ (Oper.mk _ (.load _ _) _ _ _ _ :: _) _ _; refine BigFrame.wpList_want rfl (fun K hK => ?_); (first | (refine o_loadC (v := ?_) (row := ?_) rfl rfl H ?_ ?_ ?_ (hK _ _ ?_); rotate_left 2; (repeat first | exact .head _ | apply List.Mem.tail); (exact rfl); (focus (intro _; simp [cells_iV, iL_length, setL_i, setL_ii, agg_iL, cells_rV, rL_length, setL_r, setL_rr, agg_rL]; done))) | (refine o_loadNC (row := ?_) rfl rfl H ?_ ?_ ?_ (hK _ _ ?_); rotate_left 1; (repeat first | exact .head _ | apply List.Mem.tail); (focus (intro _; simp [cells_iV, iL_length, setL_i, setL_ii, agg_iL, cells_rV, rL_length, setL_r, setL_rr, agg_rL]; done)); (focus (intro _; simp [cells_iV, iL_length, setL_i, setL_ii, agg_iL, cells_rV, rL_length, setL_r, setL_rr, agg_rL]; done)))); clear hK K) | (guard_target =~ wpList _ _ _ (Oper.mk _ (.build _ _) _ _ _ _ :: _) _ _; refine BigFrame.wpList_want rfl (fun K hK => ?_); (refine o_build (v := ?_) (ps := ?_) rfl ?_ ?_ (hK _ _ ?_); rotate_left 2; (focus (simp [Act.eval]; with_reducible exact rfl)); (focus (intro w4; with_reducible exact build_q _ _ w4))); clear hK K) | (guard_target =~ wpList _ _ _ (Oper.mk _ (.store _ _ _) _ _ _ _ :: _) _ _; refine BigFrame.wpList_want rfl (fun K hK => ?_); refine o_store (l' := ?_) (row := ?_) rfl rfl H rfl ?_ ?_ ?_ ?_ (fun w3 H2 => hK _ _ ?_); rotate_left 2; (first | exact r0 | exact r6 | exact r7); (focus (intro _; (first | (simp [Act.eval, List.getD, cells_iV, iL_length, setL_i, setL_ii, agg_iL, cells_rV, rL_length, setL_r, setL_rr, agg_rL]; done) | (simp [Act.eval, Value.cells, List.getD, cells_iV, iL_length, setL_i, setL_ii, agg_iL, cells_rV, rL_length, setL_r, setL_rr, agg_rL]; done)))); (focus (first | (simp [Act.eval, List.getD, cells_iV, iL_length, setL_i, setL_ii, agg_iL, cells_rV, rL_length, setL_r, setL_rr, agg_rL]; done) | (simp [Act.eval, Value.cells, List.getD, cells_iV, iL_length, setL_i, setL_ii, agg_iL, cells_rV, rL_length, setL_r, setL_rr, agg_rL]; done))); (exact rfl); clear hK K; clear H; (try clear w2); revert w3; intro w2 H; (try simp [Act.eval, List.getD, cells_iV, iL_length, setL_i, setL_ii, agg_iL, cells_rV, rL_length, setL_r, setL_rr, agg_rL] at H); (try simp [Value.cells, setL, cells_iV, iL_length, setL_i, setL_ii, agg_iL, cells_rV, rL_length, setL_r, setL_rr, agg_rL] at H)) | ((first | (guard_target =~ wpList _ _ _ (Oper.mk _ (.alloc _) _ _ _ _ :: _) _ _; refine BigFrame.wpList_want rfl (fun K hK => ?_); refine o_alloc (z := ?_) rfl ?_ H rfl (fun w3 b2 he H2 => hK _ _ ?_); rotate_left 1; (focus (intro _; simp; with_reducible exact rfl))) | (guard_target =~ wpList _ _ _ (Oper.mk _ (.box _ _) _ _ _ _ :: _) _ _; refine BigFrame.wpList_want rfl (fun K hK => ?_); refine o_box rfl H rfl (fun w3 b2 he H2 => hK _ _ ?_))); clear hK K he; clear H; (try clear w2); revert w3; intro w2 H; (try simp [Act.eval, List.getD, cells_iV, iL_length, setL_i, setL_ii, agg_iL, cells_rV, rL_length, setL_r, setL_rr, agg_rL] at H); (try simp [Value.cells, setL, cells_iV, iL_length, setL_i, setL_ii, agg_iL, cells_rV, rL_length, setL_r, setL_rr, agg_rL] at H); (first | (clear tk0; rename Nat => c1) | (clear tk1; rename Nat => c2) | (clear tk2; rename Nat => c3) | (clear tk3; rename Nat => c4) | (clear tk4; rename Nat => c5) | (clear tk5; rename Nat => c6) | (clear tk6; rename Nat => c7)))); simp only [Act.put, List.setIfInBounds_toArray, List.set_cons_succ, List.set_cons_zero, cells_iV, iL_length, setL_i, setL_ii, agg_iL, cells_rV, rL_length, setL_r, setL_rr, agg_rL]))
      have hr := H.loadVarN (P := Try.prog) (ty := 31) (b := c3) (row := rL N D) (by simp) (by simp) (by simp [rL_length])
      exact ⟨bodyPost_ret (v := .tuple #[rV N D, .int .i64 0]) (by simp [results, Try.results57, asAddr, hr, agg_rL]) rfl ⟨rfl, H.below⟩⟩
    · rw [hE, hV]
      clear hE hV
      rcases hv with rfl | ⟨rfl, rfl⟩ | ⟨rfl, rfl, rfl⟩
      all_goals
       go_enter Try.func57, Try.ntmps57
       have tk0 : True := trivial
       have tk1 : True := trivial
       have tk2 : True := trivial
       have tk3 : True := trivial
       have tk4 : True := trivial
       have tk5 : True := trivial
       have tk6 : True := trivial
       go_wp2_with (first
         | (guard_target =~ bodyPost _ _ _ _ _ _; refine Stopped.out ?_)
         | (go_at_call 65; (with_reducible refine (hG (FW F _) _ (H.fw_lt rfl hF) _ _ _ _ a b (by exact H.giveRd m3 f1) (by exact H.giveRd m4 f2) ga gb ma mb ma2 mb2).mono ?_); rintro e w3 ⟨A5, k5, l5, rfl, hb, s5, g5, q5, p5⟩; replace H := H.ext hb; clear hb; obtain ⟨b5, o5, H4, f5⟩ := H.addSl s5; clear H s5; have H := H4; clear H4; dsimp only)
         | (go_at_call 71; (with_reducible refine (hWg (FW F _) _ (H.fw_lt rfl hF) _ _ l5 (by first | exact H.giveRd m1 f5 | exact H.giveRd m4 f5 | exact H.giveRd m5 f5) g5 q5 p5).mono ?_); rintro e w3 ⟨rfl, hb⟩; replace H := H.ext hb; clear hb; dsimp only)
         | (go_at_call 69; (with_reducible refine (hDn (FW F _) _ (H.fw_lt rfl hF) _ _ _ _ a l5 (by first | exact H.giveRd m6 f1 | exact H.giveRd m7 f1) (by first | exact H.giveRd m2 f5 | exact H.giveRd m3 f5) ga g5 ma q5 ma2 p5).mono ?_); rintro e w3 ⟨A6, k6, l6, A7, k7, l7, rfl, hb, s6, g6, q6, p6, _, _, _, _⟩; replace H := H.ext hb; clear hb; obtain ⟨b6, o6, H4, f6⟩ := H.addSl s6; clear H s6; have H := H4; clear H4; dsimp only)
         | (go_at_call 69; (with_reducible refine (hDd (FW F _) _ (H.fw_lt rfl hF) _ _ _ _ b l5 (by exact H.giveRd m8 f2) (by exact H.giveRd m3 f5) gb g5 mb q5 mb2 p5).mono ?_); rintro e w3 ⟨A8, k8, l8, A9, k9, l9, rfl, hb, s8, g8, q8, p8, _, _, _, _⟩; replace H := H.ext hb; clear hb; obtain ⟨b8, o8, H4, f8⟩ := H.addSl s8; clear H s8; have H := H4; clear H4; dsimp only)
         | (go_at_call 71; (with_reducible refine (hWN (FW F _) _ (H.fw_lt rfl hF) _ _ l6 (by first | exact H.giveRd m1 f6 | exact H.giveRd m2 f6) g6 q6 p6).mono ?_); rintro e w3 ⟨rfl, hb⟩; replace H := H.ext hb; clear hb; dsimp only)
         | (go_at_call 71; (with_reducible refine (hWD (FW F _) _ (H.fw_lt rfl hF) _ _ l8 (by exact H.giveRd m1 f8) g8 q8 p8).mono ?_); rintro e w3 ⟨rfl, hb⟩; replace H := H.ext hb; clear hb; dsimp only)
         | (guard_target =~ wpList _ _ _ (_ :: _) _ _; (first | (guard_target =~ wpList _ _ _ (Oper.mk _ (.load _ _) _ _ _ _ :: _) _ _; refine BigFrame.wpList_want rfl (fun K hK => ?_); (first | (refine o_loadC (v := ?_) (row := ?_) rfl rfl H ?_ ?_ ?_ (hK _ _ ?_); rotate_left 2; (repeat first | exact .head _ | apply List.Mem.tail); (exact rfl); (focus (intro _; simp [cells_iV, iL_length, setL_i, setL_ii, agg_iL, cells_rV, rL_length, setL_r, setL_rr, agg_rL]; done))) | (refine o_loadNC (row := ?_) rfl rfl H ?_ ?_ ?_ (hK _ _ ?_); rotate_left 1; (repeat first | exact .head _ | apply List.Mem.tail); (focus (intro _; simp [cells_iV, iL_length, setL_i, setL_ii, agg_iL, cells_rV, rL_length, setL_r, setL_rr, agg_rL]; done)); (focus (intro _; simp [cells_iV, iL_length, setL_i, setL_ii, agg_iL, cells_rV, rL_length, setL_r, setL_rr, agg_rL]; done)))); clear hK K) | (guard_target =~ wpList _ _ _ (Oper.mk _ (.build _ _) _ _ _ _ :: _) _ _; refine BigFrame.wpList_want rfl (fun K hK => ?_); (refine o_build (v := ?_) (ps := ?_) rfl ?_ ?_ (hK _ _ ?_); rotate_left 2; (focus (simp [Act.eval]; with_reducible exact rfl)); (focus (intro w4; with_reducible exact build_q0 w4))); clear hK K) | (guard_target =~ wpList _ _ _ (Oper.mk _ (.store _ _ _) _ _ _ _ :: _) _ _; refine BigFrame.wpList_want rfl (fun K hK => ?_); refine o_store (l' := ?_) (row := ?_) rfl rfl H rfl ?_ ?_ ?_ ?_ (fun w3 H2 => hK _ _ ?_); rotate_left 2; (first | exact r0 | exact r6 | exact r7); (focus (intro _; (first | (simp [Act.eval, List.getD, cells_iV, iL_length, setL_i, setL_ii, agg_iL, cells_rV, rL_length, setL_r, setL_rr, agg_rL]; done) | (simp [Act.eval, Value.cells, List.getD, cells_iV, iL_length, setL_i, setL_ii, agg_iL, cells_rV, rL_length, setL_r, setL_rr, agg_rL]; done)))); (focus (first | (simp [Act.eval, List.getD, cells_iV, iL_length, setL_i, setL_ii, agg_iL, cells_rV, rL_length, setL_r, setL_rr, agg_rL]; done) | (simp [Act.eval, Value.cells, List.getD, cells_iV, iL_length, setL_i, setL_ii, agg_iL, cells_rV, rL_length, setL_r, setL_rr, agg_rL]; done))); (exact rfl); clear hK K; clear H; (try clear w2); revert w3; intro w2 H; (try simp [Act.eval, List.getD, cells_iV, iL_length, setL_i, setL_ii, agg_iL, cells_rV, rL_length, setL_r, setL_rr, agg_rL] at H); (try simp [Value.cells, setL, cells_iV, iL_length, setL_i, setL_ii, agg_iL, cells_rV, rL_length, setL_r, setL_rr, agg_rL] at H)) | ((first | (guard_target =~ wpList _ _ _ (Oper.mk _ (.alloc _) _ _ _ _ :: _) _ _; refine BigFrame.wpList_want rfl (fun K hK => ?_); refine o_alloc (z := ?_) rfl ?_ H rfl (fun w3 b2 he H2 => hK _ _ ?_); rotate_left 1; (focus (intro _; simp; with_reducible exact rfl))) | (guard_target =~ wpList _ _ _ (Oper.mk _ (.box _ _) _ _ _ _ :: _) _ _; refine BigFrame.wpList_want rfl (fun K hK => ?_); refine o_box rfl H rfl (fun w3 b2 he H2 => hK _ _ ?_))); clear hK K he; clear H; (try clear w2); revert w3; intro w2 H; (try simp [Act.eval, List.getD, cells_iV, iL_length, setL_i, setL_ii, agg_iL, cells_rV, rL_length, setL_r, setL_rr, agg_rL] at H); (try simp [Value.cells, setL, cells_iV, iL_length, setL_i, setL_ii, agg_iL, cells_rV, rL_length, setL_r, setL_rr, agg_rL] at H); (first | (clear tk0; rename Nat => c1) | (clear tk1; rename Nat => c2) | (clear tk2; rename Nat => c3) | (clear tk3; rename Nat => c4) | (clear tk4; rename Nat => c5) | (clear tk5; rename Nat => c6) | (clear tk6; rename Nat => c7)))); simp only [Act.put, List.setIfInBounds_toArray, List.set_cons_succ, List.set_cons_zero, cells_iV, iL_length, setL_i, setL_ii, agg_iL, cells_rV, rL_length, setL_r, setL_rr, agg_rL]))
       have hr := H.loadVarN (P := Try.prog) (ty := 31) (b := c3) (row := rL 0 0) (by simp) (by simp) (by simp [rL_length])
       exact ⟨bodyPost_ret (v := .tuple #[rV 0 0, .int .i64 3]) (by simp [results, Try.results57, asAddr, hr, agg_rL]) rfl ⟨rfl, H.below⟩⟩
end Go.Proofs.Ytmmieilogpmocaa

/-
  The walks of the document's layer 3: products.
-/
namespace Go.Proofs.Ytmmieilogpmocaa
set_option linter.unusedVariables false
set_option linter.unusedSimpArgs false
open Go.RowKit

theorem sgn_mul {x y : Int} {a b : List Nat} (ga : CnI a x) (gb : CnI b y) : sgn (!(decide (x < 0) == decide (y < 0))) (val a * val b) = x * y := by
  rw [ga.2.2, gb.2.2]; unfold sgn
  by_cases hx : x < 0 <;> by_cases hy : y < 0 <;> simp [hx, hy]
  · rw [show (x.natAbs : Int) = -x by omega, show (y.natAbs : Int) = -y by omega, Int.neg_mul_neg]
  · rw [show (x.natAbs : Int) = -x by omega, show (y.natAbs : Int) = y by omega, Int.neg_mul, Int.neg_neg]
  · rw [show (x.natAbs : Int) = x by omega, show (y.natAbs : Int) = -y by omega, Int.mul_neg, Int.neg_neg]
  · rw [show (x.natAbs : Int) = x by omega, show (y.natAbs : Int) = y by omega]
theorem carry_end {a b l : List Nat} {n c x : Nat} (ga : Dg a) (gb : Dg b) (hn : n < a.length) (hx : a.getD n 0 = x)
    (hv : val l + 65536 ^ (n + (b.length + 1)) * c = val (a.take n) * val b + 65536 ^ n * (x * val b)) : c = 0 := by
  have h1 := mul_next 65536 a b n x hx
  rw [val_vB, val_vB, val_vB] at h1
  rw [h1] at hv
  have h2 : val (a.take (n + 1)) < 65536 ^ (n + 1) := by
    have := val_lt (ga.take (n + 1))
    rwa [List.length_take, Nat.min_eq_left (by omega)] at this
  have h3 := val_lt gb
  have h4 : val (a.take (n + 1)) * val b < 65536 ^ (n + 1) * 65536 ^ b.length := Nat.mul_lt_mul_of_lt_of_le h2 (Nat.le_of_lt h3) (Nat.pow_pos (by omega))
  rw [← Nat.pow_add, show n + 1 + b.length = n + (b.length + 1) by omega] at h4
  rcases Nat.eq_zero_or_pos c with h | h
  · exact h
  · have : 65536 ^ (n + (b.length + 1)) * 1 ≤ 65536 ^ (n + (b.length + 1)) * c := Nat.mul_le_mul_left _ h
    omega
def RMulRel (w : World) (A1 A2 : Option Addr) (b1 o1 b2 o2 k1 k2 d2 d3 d4 d5 : Nat) (s t : Bool) (a b : List Nat) (k : Nat) (i : Value) (wr : World) : Prop :=
  ∃ (n : Nat) (l : List Nat), n + k = a.length ∧ i = .int .i64 (n : Int) ∧ l.length = a.length + b.length + 1 ∧ Dg l ∧ val l = val (a.take n) * val b ∧
    Own w.heap.size w wr [.cells d5 (dl l), .cells d4 [.bool false, .slice none 0 0], .cells d3 [.bool t, .slice A2 b.length k2], .cells d2 [.bool s, .slice A1 a.length k1], .rd A1 b1 o1 (dl a), .rd A2 b2 o2 (dl b)]
def RMulIn (w : World) (A1 A2 : Option Addr) (b1 o1 b2 o2 k1 k2 d2 d3 d4 d5 : Nat) (s t : Bool) (a b : List Nat) (n x p : Nat) (k : Nat) (cy j : Value) (wr : World) : Prop :=
  ∃ (m c : Nat) (l : List Nat), m + k = b.length + 1 ∧ j = .int .i64 (m : Int) ∧ cy = .int .i64 (c : Int) ∧ c < 65536 ∧ l.length = a.length + b.length + 1 ∧ Dg l ∧ val l + 65536 ^ (n + m) * c = p + 65536 ^ n * (x * val (b.take m)) ∧
    Own w.heap.size w wr [.cells d5 (dl l), .cells d4 [.bool false, .slice none 0 0], .cells d3 [.bool t, .slice A2 b.length k2], .cells d2 [.bool s, .slice A1 a.length k1], .rd A1 b1 o1 (dl a), .rd A2 b2 o2 (dl b)]
set_option maxRecDepth 100000 in
set_option maxHeartbeats 4000000 in
theorem refMul_any (F : Nat → Prop) (w : World) (hF : ∀ k, F k → k < w.heap.size) (A1 A2 : Option Addr) (k1 k2 : Nat) (a b : List Nat) (x y : Int) (ha : Sl F w A1 (dl a)) (hb : Sl F w A2 (dl b)) (ga : CnI a x) (gb : CnI b y) (la : a.length ≤ 450) (lb : b.length ≤ 450)
    (ma : a.length ≤ k1) (mb : b.length ≤ k2) :
    Calls Try.prog 74 #[.agg #[.bool (decide (x < 0)), .slice A1 a.length k1], .agg #[.bool (decide (y < 0)), .slice A2 b.length k2]] w (RetN F w (x * y)) := by
  obtain ⟨b2, o2, H2, f2⟩ := (Own.start w).addSl (hb.ro (by rfl))
  obtain ⟨b1, o1, H, f1⟩ := H2.addSl (ha.ro (by rfl))
  clear ha hb H2
  have hz := sgn_mul ga gb
  have ga1 := ga.1
  have gb1 := gb.1
  obtain ⟨s, hs⟩ : ∃ s, decide (x < 0) = s := ⟨_, rfl⟩
  obtain ⟨t, ht⟩ : ∃ t, decide (y < 0) = t := ⟨_, rfl⟩
  rw [hs, ht] at hz ⊢
  rw [← hz]
  clear hs ht hz ga gb
  go_enter Try.func74, Try.ntmps74
  have tk0 : True := trivial
  have tk1 : True := trivial
  have tk2 : True := trivial
  have tk3 : True := trivial
  go_wp2_with (guard_target =~ wpList _ _ _ (_ :: _) _ _; (first | (guard_target =~ wpList _ _ _ (Oper.mk _ (.load _ _) _ _ _ _ :: _) _ _; refine BigFrame.wpList_want rfl (fun K hK => ?_); (refine o_loadC (v := ?_) (row := ?_) rfl rfl H ?_ ?_ ?_ (hK _ _ ?_); rotate_left 2; (repeat first | exact .head _ | apply List.Mem.tail); (exact rfl); (focus (intro _; simp; done))); clear hK K) | ((first | (guard_target =~ wpList _ _ _ (Oper.mk _ (.alloc _) _ _ _ _ :: _) _ _; refine BigFrame.wpList_want rfl (fun K hK => ?_); refine o_alloc (z := ?_) rfl ?_ H rfl (fun w3 b2 he H2 => hK _ _ ?_); rotate_left 1; (focus (intro _; simp; with_reducible exact rfl))) | (guard_target =~ wpList _ _ _ (Oper.mk _ (.box _ _) _ _ _ _ :: _) _ _; refine BigFrame.wpList_want rfl (fun K hK => ?_); refine o_box rfl H rfl (fun w3 b2 he H2 => hK _ _ ?_))); clear hK K he; clear H; (try clear w2); revert w3; intro w2 H; simp [Act.eval, Value.cells, setL, List.getD] at H; (first | (clear tk0; rename Nat => d2) | (clear tk1; rename Nat => d3) | (clear tk2; rename Nat => d4))) | (guard_target =~ wpList _ _ _ (Oper.mk _ (.makeSlice _ _ _) _ _ _ _ :: _) _ _; refine BigFrame.wpList_want rfl (fun K hK => ?_); refine o_make (n := a.length + b.length + 1) Try.infoInt rfl (congrArg (Value.int .i64) (by omega)) (congrArg (Value.int .i64) (by omega)) (by kernel_rfl) ?_ H rfl (fun w3 b2 he H2 => hK _ _ ?_); (focus (exact (by omega))); clear hK K he; clear H; (try clear w2); revert w3; intro w2 H; (clear tk3; rename Nat => d5))); simp only [Act.put, List.setIfInBounds_toArray, List.set_cons_succ, List.set_cons_zero])
  rw [made_dl] at H
  go_loopg [6] a.length (RMulRel w A1 A2 b1 o1 b2 o2 k1 k2 d2 d3 d4 d5 s t a b)
  case atStart =>
    refine ⟨0, List.replicate (a.length + b.length + 1) 0, Nat.zero_add _, rfl, by simp, Dg.zeros _, ?_, H⟩
    rw [← val_vB, vB_zeros]; simp [val]
  case round =>
    clear H
    obtain ⟨n, l, hk, rfl, hl, gl, hv, H⟩ := hrel
    have HL := Lib.hid hl
    have HV := Lib.hid hv
    clear hl hv
    by_cases h0 : n < a.length
    · go_wp2_with (guard_target =~ wpList _ _ _ (_ :: _) _ _; (guard_target =~ wpList _ _ _ (Oper.mk _ (.load _ _) _ _ _ _ :: _) _ _; refine BigFrame.wpList_want rfl (fun K hK => ?_); (refine o_loadC (v := ?_) (row := ?_) rfl rfl H ?_ ?_ ?_ (hK _ _ ?_); rotate_left 2; (repeat first | exact .head _ | apply List.Mem.tail); (exact rfl); (focus (intro _; simp; done))); clear hK K); simp only [Act.put, List.setIfInBounds_toArray, List.set_cons_succ, List.set_cons_zero])
      go_loopg [7, 8] (b.length + 1) (RMulIn w A1 A2 b1 o1 b2 o2 k1 k2 d2 d3 d4 d5 s t a b n (a.getD n 0) (val (a.take n) * val b))
      case atStart =>
        exact ⟨0, 0, l, Nat.zero_add _, rfl, rfl, by omega, HL.out, gl, by rw [HV.out]; simp [val], H⟩
      case round =>
        clear H
        obtain ⟨m, c, l, hk2, rfl, rfl, hc, hl, gl, hv, H⟩ := hrel
        replace HL := Lib.hid hl
        have HI := Lib.hid hv
        clear hl hv HV
        obtain rfl := H.rdAddr m4 (by rw [dl_length]; omega)
        obtain ⟨x, hx, bx, tx⟩ := dig_at h0 ga1
        replace tx := tx (some ⟨b1, o1, none⟩) b1 o1
        by_cases h1 : m < b.length
        · obtain rfl := H.rdAddr m5 (by rw [dl_length]; omega)
          obtain ⟨y, hy, by_, ty⟩ := dig_at h1 gb1
          replace ty := ty (some ⟨b2, o2, none⟩) b2 o2
          have hnm : n + m < l.length := by rw [HL.out]; omega
          have hnl : n + m < (dl l).length := by rw [dl_length]; exact hnm
          have hnm2 : n + m < a.length + b.length + 1 := by omega
          obtain ⟨o, ho⟩ : ∃ o, l.getD (n + m) 0 = o := ⟨_, rfl⟩
          have bo : o < 65536 := by rw [← ho]; exact gl.get _
          have ldO : (Res.cells d5 (dl l)).at d5 (n + m) [.int .i64 (o : Int)] := at_cells (by rw [dl_get hnm, ho])
          have HO := Lib.hid ho
          obtain ⟨q, hq⟩ : ∃ q, x * y = q := ⟨_, rfl⟩
          have bq : q ≤ 4294836225 := by rw [← hq]; exact Nat.mul_le_mul (show x ≤ 65535 by omega) (show y ≤ 65535 by omega)
          have hq2 : (x : Int) * (y : Int) = (q : Int) := by rw [← hq]; simp
          have HQ := Lib.hid hq
          clear ho hq hnm
          go_wp2_with (first
            | (guard_target =~ Code.wp _ (Code.region 11 _ true) _ _ _; refine region_tree0 11 (G := True) (.q 0 (.q 1 (.q 2 (.q 3 (.q 4 (.q 5 (.q 6 (.q 7 (.q 8 (.q 9 (.q 10 (.q 11 (.q 12 (.q 13 .nil)))))))))))))) (by kernel_rfl) (by intro c a d v w h; cases d <;> exact h) (by kernel_rfl) H ⟨trivial⟩ (fun _ w3 H2 => ?_); (clear H; (try clear w2); revert w3; intro w2 H))
            | (guard_target =~ wpList _ _ _ (_ :: _) _ _; (first | (guard_target =~ wpList _ _ _ (Oper.mk _ (.load _ _) _ _ _ _ :: _) _ _; refine BigFrame.wpList_want rfl (fun K hK => ?_); (first | (refine o_load (v := ?_) (r := ?_) rfl rfl H ?_ ?_ ?_ (hK _ _ ?_); rotate_left 2; (with_reducible assumption); (repeat first | exact .head _ | apply List.Mem.tail); (focus (intro _; simp; done))) | (refine o_loadC (v := ?_) (row := ?_) rfl rfl H ?_ ?_ ?_ (hK _ _ ?_); rotate_left 2; (repeat first | exact .head _ | apply List.Mem.tail); (exact rfl); (focus (intro _; simp; done)))); clear hK K) | (guard_target =~ wpList _ _ _ (Oper.mk _ (.store _ _ _) _ _ _ _ :: _) _ _; refine BigFrame.wpList_want rfl (fun K hK => ?_); refine o_store (l' := ?_) (row := ?_) rfl rfl H rfl ?_ ?_ ?_ ?_ (fun w3 H2 => hK _ _ ?_); rotate_left 2; (exact r0); (focus (intro _; simp [Act.eval, Value.cells]; done)); (focus ((try simp [Act.eval, Value.cells]); omega)); (exact rfl); clear hK K; clear H; (try clear w2); revert w3; intro w2 H; simp [Act.eval, Value.cells, setL, List.getD] at H)); simp only [Act.put, List.setIfInBounds_toArray, List.set_cons_succ, List.set_cons_zero])
            | (guard_target =~ wpTree _ _ _ _ _ _ _; first | (guard_target =~ wpTree _ _ _ (Tr.q _ _) _ _ _; first | (refine tree_quiet ⟨_, H, by repeat first | exact .here | apply Suf.there⟩ rfl rfl rfl (fun K hK => ?_); simp only [List.getElem_toArray, List.getElem_cons_succ, List.getElem_cons_zero]; first | (guard_target =~ Oper.quiet _ (Oper.mk _ (.load _ _) _ _ _ _) _ _ _; (first | (refine q_load (v := ?_) (r := ?_) rfl rfl ?_ ?_ ?_ (hK _ ?_); rotate_left 2; (with_reducible assumption); (repeat first | exact .head _ | apply List.Mem.tail); (focus (intro _; simp; done))) | (refine q_loadC (v := ?_) (row := ?_) rfl rfl ?_ ?_ ?_ (hK _ ?_); rotate_left 2; (repeat first | exact .head _ | apply List.Mem.tail); (exact rfl); (focus (intro _; simp; done)))); clear hK K; simp only [Act.put, List.setIfInBounds_toArray, List.set_cons_succ, List.set_cons_zero]) | (go_big_quiet_op; (try refine ⟨_, fun _ _ => rfl, ?_⟩); refine hK _ ?_; clear hK K)) | (refine tree_skip ⟨_, H, by repeat first | exact .here | apply Suf.there⟩ rfl rfl ?_; simp only [List.getElem_toArray, List.getElem_cons_succ, List.getElem_cons_zero, Act.put, List.setIfInBounds_toArray, List.set_cons_succ, List.set_cons_zero])) | (guard_target =~ wpTree _ _ _ (Tr.both _ _) _ _ _; refine tree_both ?_ ?_) | (guard_target =~ wpTree _ _ _ (Tr.e _ _) _ _ _; first | (refine tree_one rfl rfl (fun K hK => ?_); simp only [List.getElem_toArray, List.getElem_cons_succ, List.getElem_cons_zero]; first | ((first | fail); simp only [Act.put, List.setIfInBounds_toArray, List.set_cons_succ, List.set_cons_zero]) | go_big_op) | (refine tree_one_skip ⟨_, H, by repeat first | exact .here | apply Suf.there⟩ rfl rfl ?_; simp only [List.getElem_toArray, List.getElem_cons_succ, List.getElem_cons_zero, Act.put, List.setIfInBounds_toArray, List.set_cons_succ, List.set_cons_zero])) | (guard_target =~ wpTree _ _ _ Tr.nil _ _ _; refine tree_nil ?_)))
          have e2 : ((o : Int) + (c : Int) + (q : Int)) % 65536 = (((o + c + q) % 65536 : Nat) : Int) := by omega
          rw [e2, dl_set] at H
          go_roundg (gk - 1)
          case rel =>
            have bo' : (o + c + q) / 65536 < 65536 := by omega
            have hI := HI.out
            rw [hx.out] at hI
            refine ⟨m + 1, (o + c + q) / 65536, l.set (n + m) ((o + c + q) % 65536), by omega, by congr 1, by congr 1, bo', by rw [List.length_set]; exact HL.out, gl.set _ _ (by omega), ?_, H⟩
            rw [hx.out, ← val_vB, ← val_vB (b.take _)] at *
            exact mul_round 65536 l b _ x y n m c _ _ o (by rw [HL.out]; omega) HO.out hy.out hI (by rw [HQ.out]; omega)
          case measure => omega
        · by_cases h2 : 0 < c
          · have hm : m = b.length := by
              by_cases h : m = b.length
              · exact h
              · exfalso
                obtain rfl : m = b.length + 1 := by omega
                have hI := HI.out
                rw [List.take_of_length_le (l := b) (by omega)] at hI
                have := carry_end ga1 gb1 h0 rfl hI
                omega
            have hnm : n + m < l.length := by rw [HL.out]; omega
            have hnl : n + m < (dl l).length := by rw [dl_length]; exact hnm
            have hnm2 : n + m < a.length + b.length + 1 := by omega
            obtain ⟨o, ho⟩ : ∃ o, l.getD (n + m) 0 = o := ⟨_, rfl⟩
            have bo : o < 65536 := by rw [← ho]; exact gl.get _
            have ldO : (Res.cells d5 (dl l)).at d5 (n + m) [.int .i64 (o : Int)] := at_cells (by rw [dl_get hnm, ho])
            have HO := Lib.hid ho
            have HM := Lib.hid hm
            clear ho hnm hm
            go_wp2_with (guard_target =~ wpList _ _ _ (_ :: _) _ _; (first | (guard_target =~ wpList _ _ _ (Oper.mk _ (.load _ _) _ _ _ _ :: _) _ _; refine BigFrame.wpList_want rfl (fun K hK => ?_); (first | (refine o_load (v := ?_) (r := ?_) rfl rfl H ?_ ?_ ?_ (hK _ _ ?_); rotate_left 2; (with_reducible assumption); (repeat first | exact .head _ | apply List.Mem.tail); (focus (intro _; simp; done))) | (refine o_loadC (v := ?_) (row := ?_) rfl rfl H ?_ ?_ ?_ (hK _ _ ?_); rotate_left 2; (repeat first | exact .head _ | apply List.Mem.tail); (exact rfl); (focus (intro _; simp; done)))); clear hK K) | (guard_target =~ wpList _ _ _ (Oper.mk _ (.store _ _ _) _ _ _ _ :: _) _ _; refine BigFrame.wpList_want rfl (fun K hK => ?_); refine o_store (l' := ?_) (row := ?_) rfl rfl H rfl ?_ ?_ ?_ ?_ (fun w3 H2 => hK _ _ ?_); rotate_left 2; (exact r0); (focus (intro _; simp [Act.eval, Value.cells]; done)); (focus ((try simp [Act.eval, Value.cells]); omega)); (exact rfl); clear hK K; clear H; (try clear w2); revert w3; intro w2 H; simp [Act.eval, Value.cells, setL, List.getD] at H)); simp only [Act.put, List.setIfInBounds_toArray, List.set_cons_succ, List.set_cons_zero])
            have e2 : ((o : Int) + (c : Int)) % 65536 = (((o + c) % 65536 : Nat) : Int) := by omega
            rw [e2, dl_set] at H
            go_roundg (gk - 1)
            case rel =>
              have hI := HI.out
              have hm := HM.out
              refine ⟨m + 1, (o + c) / 65536, l.set (n + m) ((o + c) % 65536), by omega, by congr 1, by congr 1, by omega, by rw [List.length_set]; exact HL.out, gl.set _ _ (by omega), ?_, H⟩
              rw [← val_vB, ← val_vB (b.take _)] at *
              exact mul_round 65536 l b _ _ 0 n m c ((o + c) % 65536) ((o + c) / 65536) o (by rw [HL.out]; omega) HO.out (getD_past h1) hI (by rw [Nat.mul_zero]; omega)
            case measure => have hm := HM.out; omega
          · obtain rfl : c = 0 := by omega
            go_wp2_with (guard_target =~ wpList _ _ _ (_ :: _) _ _; (guard_target =~ wpList _ _ _ (Oper.mk _ (.load _ _) _ _ _ _ :: _) _ _; refine BigFrame.wpList_want rfl (fun K hK => ?_); (refine o_loadC (v := ?_) (row := ?_) rfl rfl H ?_ ?_ ?_ (hK _ _ ?_); rotate_left 2; (repeat first | exact .head _ | apply List.Mem.tail); (exact rfl); (focus (intro _; simp; done))); clear hK K); simp only [Act.put, List.setIfInBounds_toArray, List.set_cons_succ, List.set_cons_zero])
            go_roundg (a.length - (n + 1))
            case rel =>
              have hI := HI.out
              rw [List.take_of_length_le (l := b) (by omega), Nat.mul_zero, Nat.add_zero] at hI
              have h1 := mul_next 65536 a b n _ rfl
              rw [val_vB, val_vB, val_vB] at h1
              rw [h1] at hI
              exact ⟨n + 1, l, by omega, by congr 1, HL.out, gl, hI, H⟩
            case measure => omega
    · obtain rfl : n = a.length := by omega
      have hv := HV.out
      rw [List.take_length] at hv
      have HQ := Lib.hid hv
      have n2 := H.notF m0 hF
      have H := H.toRd
      have HT : ∀ (F : Nat → Prop) (w : World) (hF : ∀ k, F k → k < w.heap.size) (A : Option Addr) (ha : Sl F w A (dl l)), Calls Try.prog 97 #[.agg #[.bool (!(s == t)), .slice A (a.length + b.length + 1) (a.length + b.length + 1)]] w (RetN F w (sgn (!(s == t)) (val l))) := by
        intro F w hF A ha
        have h := trim_any F w hF (!(s == t)) A (a.length + b.length + 1) l ha gl (by rw [HL.out]; omega) (by rw [HL.out]; exact Nat.le_refl _) (by unfold maxLen; omega)
        rw [HL.out] at h
        exact h
      clear hv
      go_wp2_with (first
        | (go_at_call 97; (with_reducible refine (HT (FW F _) _ (H.fw_lt rfl hF) _ (H.giveRd m0 (fun _ => n2))).mono ?_); rintro e w3 ⟨A3, k3, l3, rfl, hb, s3, g3, q2, q3⟩; replace H := H.ext hb; clear hb; obtain ⟨b4, o4, H4, f4⟩ := H.addSl s3; clear H s3; have H := H4; clear H4; dsimp only)
        | (guard_target =~ wpList _ _ _ (_ :: _) _ _; (first | (guard_target =~ wpList _ _ _ (Oper.mk _ (.load _ _) _ _ _ _ :: _) _ _; refine BigFrame.wpList_want rfl (fun K hK => ?_); (refine o_loadC (v := ?_) (row := ?_) rfl rfl H ?_ ?_ ?_ (hK _ _ ?_); rotate_left 2; (repeat first | exact .head _ | apply List.Mem.tail); (exact rfl); (focus (intro _; simp; done))); clear hK K) | (guard_target =~ wpList _ _ _ (Oper.mk _ (.store _ _ _) _ _ _ _ :: _) _ _; refine BigFrame.wpList_want rfl (fun K hK => ?_); refine o_store (l' := ?_) (row := ?_) rfl rfl H rfl ?_ ?_ ?_ ?_ (fun w3 H2 => hK _ _ ?_); rotate_left 2; (exact r2); (focus (intro _; simp [Act.eval, Value.cells]; done)); (focus (simp [Act.eval, Value.cells]; done)); (exact rfl); clear hK K; clear H; (try clear w2); revert w3; intro w2 H; simp [Act.eval, Value.cells, setL, List.getD] at H)); simp only [Act.put, List.setIfInBounds_toArray, List.set_cons_succ, List.set_cons_zero]))
      have hr := H.loadVarN (P := Try.prog) (ty := 71) m2 (by simp) (by simp)
      rw [← HQ.out]
      exact bodyPost_ret (v := .agg #[.bool (decide (sgn (!(s == t)) (val l) < 0)), .slice A3 l3.length k3]) (by simp [results, Try.results74, asAddr, hr]) rfl ⟨A3, k3, l3, rfl, H.below, (H.giveRd m0 f4).fw, g3, q2, q3⟩
end Go.Proofs.Ytmmieilogpmocaa

/-
  The walks of the document's layer 3: which number is greater.
-/
namespace Go.Proofs.Ytmmieilogpmocaa
set_option linter.unusedVariables false
set_option linter.unusedSimpArgs false
open Go.RowKit

/-- Which of two numbers is greater. -/
def cmpR (x y : Int) : Int := if x < y then -1 else if y < x then 1 else 0
set_option maxRecDepth 100000 in
set_option maxHeartbeats 4000000 in
theorem refCmp_any (F : Nat → Prop) (w : World) (hF : ∀ k, F k → k < w.heap.size) (A1 A2 : Option Addr) (c1 c2 : Nat) (a b : List Nat) (x y : Int) (ha : Sl F w A1 (dl a)) (hb : Sl F w A2 (dl b)) (ga : CnI a x) (gb : CnI b y) (la : a.length ≤ 1000) (lb : b.length ≤ 1000) :
    Calls Try.prog 73 #[.agg #[.bool (decide (x < 0)), .slice A1 a.length c1], .agg #[.bool (decide (y < 0)), .slice A2 b.length c2]] w fun e w' => e = .returned (.int .i64 (cmpR x y)) ∧ Below w.heap.size w w' := by
  obtain ⟨b2, o2, H2, f2⟩ := (Own.start w).addSl (hb.ro (by rfl))
  obtain ⟨b1, o1, H, f1⟩ := H2.addSl (ha.ro (by rfl))
  clear ha hb H2
  obtain ⟨s, hs⟩ : ∃ s, decide (x < 0) = s := ⟨_, rfl⟩
  obtain ⟨t, ht⟩ : ∃ t, decide (y < 0) = t := ⟨_, rfl⟩
  have hz : cmpR x y = if s = t then (if s = true then cmpN y.natAbs x.natAbs else cmpN x.natAbs y.natAbs) else (if s = true then -1 else 1) := by
    rw [← hs, ← ht]; unfold cmpR cmpN
    by_cases hx : x < 0 <;> by_cases hy : y < 0 <;> simp [hx, hy] <;> repeat' split <;> omega
  rw [hs, ht, hz]
  clear hz hs ht
  have H3 : ∀ (F : Nat → Prop) (w : World) (hF : ∀ k, F k → k < w.heap.size) (A1 A2 : Option Addr) (c1 c2 : Nat) (ha : Sl F w A1 (dl a)) (hb : Sl F w A2 (dl b)), Calls Try.prog 98 #[.slice A1 a.length c1, .slice A2 b.length c2] w fun e w' => e = .returned (.int .i64 (cmpN x.natAbs y.natAbs)) ∧ Below w.heap.size w w' :=
    fun F w hF A1 A2 c1 c2 ha hb => size_any F w hF A1 A2 c1 c2 a b x y ha hb ga gb la lb
  have H4 : ∀ (F : Nat → Prop) (w : World) (hF : ∀ k, F k → k < w.heap.size) (A1 A2 : Option Addr) (c1 c2 : Nat) (ha : Sl F w A1 (dl b)) (hb : Sl F w A2 (dl a)), Calls Try.prog 98 #[.slice A1 b.length c1, .slice A2 a.length c2] w fun e w' => e = .returned (.int .i64 (cmpN y.natAbs x.natAbs)) ∧ Below w.heap.size w w' :=
    fun F w hF A1 A2 c1 c2 ha hb => size_any F w hF A1 A2 c1 c2 b a y x ha hb gb ga lb la
  generalize cmpN x.natAbs y.natAbs = u at *
  generalize cmpN y.natAbs x.natAbs = v at *
  clear ga gb
  cases s <;> cases t
  · go_enter Try.func73, Try.ntmps73
    have tk0 : True := trivial
    have tk1 : True := trivial
    go_wp2_with (first
      | (go_at_call 98; (with_reducible refine (H3 (FW F _) _ (H.fw_lt rfl hF) _ _ _ _ (H.giveRd m2 f1) (H.giveRd m3 f2)).mono ?_); rintro e w3 ⟨rfl, hb⟩; replace H := H.ext hb; clear hb; dsimp only)
      | (guard_target =~ wpList _ _ _ (_ :: _) _ _; (first | (guard_target =~ wpList _ _ _ (Oper.mk _ (.load _ _) _ _ _ _ :: _) _ _; refine BigFrame.wpList_want rfl (fun K hK => ?_); (refine o_loadC (v := ?_) (row := ?_) rfl rfl H ?_ ?_ ?_ (hK _ _ ?_); rotate_left 2; (repeat first | exact .head _ | apply List.Mem.tail); (exact rfl); (focus (intro _; simp; done))); clear hK K) | ((guard_target =~ wpList _ _ _ (Oper.mk _ (.box _ _) _ _ _ _ :: _) _ _; refine BigFrame.wpList_want rfl (fun K hK => ?_); refine o_box rfl H rfl (fun w3 b2 he H2 => hK _ _ ?_)); clear hK K he; clear H; (try clear w2); revert w3; intro w2 H; simp [Act.eval, Value.cells, setL, List.getD] at H; (first | (clear tk0; rename Nat => d2) | (clear tk1; rename Nat => d3)))); simp only [Act.put, List.setIfInBounds_toArray, List.set_cons_succ, List.set_cons_zero]))
    go_ret
    exact ⟨rfl, H.below⟩
  · go_enter Try.func73, Try.ntmps73
    have tk0 : True := trivial
    have tk1 : True := trivial
    go_wp2_with (guard_target =~ wpList _ _ _ (_ :: _) _ _; (first | (guard_target =~ wpList _ _ _ (Oper.mk _ (.load _ _) _ _ _ _ :: _) _ _; refine BigFrame.wpList_want rfl (fun K hK => ?_); (refine o_loadC (v := ?_) (row := ?_) rfl rfl H ?_ ?_ ?_ (hK _ _ ?_); rotate_left 2; (repeat first | exact .head _ | apply List.Mem.tail); (exact rfl); (focus (intro _; simp; done))); clear hK K) | ((guard_target =~ wpList _ _ _ (Oper.mk _ (.box _ _) _ _ _ _ :: _) _ _; refine BigFrame.wpList_want rfl (fun K hK => ?_); refine o_box rfl H rfl (fun w3 b2 he H2 => hK _ _ ?_)); clear hK K he; clear H; (try clear w2); revert w3; intro w2 H; simp [Act.eval, Value.cells, setL, List.getD] at H; (first | (clear tk0; rename Nat => d2) | (clear tk1; rename Nat => d3)))); simp only [Act.put, List.setIfInBounds_toArray, List.set_cons_succ, List.set_cons_zero])
    go_ret
    exact ⟨rfl, H.below⟩
  · go_enter Try.func73, Try.ntmps73
    have tk0 : True := trivial
    have tk1 : True := trivial
    go_wp2_with (guard_target =~ wpList _ _ _ (_ :: _) _ _; (first | (guard_target =~ wpList _ _ _ (Oper.mk _ (.load _ _) _ _ _ _ :: _) _ _; refine BigFrame.wpList_want rfl (fun K hK => ?_); (refine o_loadC (v := ?_) (row := ?_) rfl rfl H ?_ ?_ ?_ (hK _ _ ?_); rotate_left 2; (repeat first | exact .head _ | apply List.Mem.tail); (exact rfl); (focus (intro _; simp; done))); clear hK K) | ((guard_target =~ wpList _ _ _ (Oper.mk _ (.box _ _) _ _ _ _ :: _) _ _; refine BigFrame.wpList_want rfl (fun K hK => ?_); refine o_box rfl H rfl (fun w3 b2 he H2 => hK _ _ ?_)); clear hK K he; clear H; (try clear w2); revert w3; intro w2 H; simp [Act.eval, Value.cells, setL, List.getD] at H; (first | (clear tk0; rename Nat => d2) | (clear tk1; rename Nat => d3)))); simp only [Act.put, List.setIfInBounds_toArray, List.set_cons_succ, List.set_cons_zero])
    go_ret
    exact ⟨rfl, H.below⟩
  · go_enter Try.func73, Try.ntmps73
    have tk0 : True := trivial
    have tk1 : True := trivial
    go_wp2_with (first
      | (go_at_call 98; (with_reducible refine (H4 (FW F _) _ (H.fw_lt rfl hF) _ _ _ _ (H.giveRd m3 f2) (H.giveRd m2 f1)).mono ?_); rintro e w3 ⟨rfl, hb⟩; replace H := H.ext hb; clear hb; dsimp only)
      | (guard_target =~ wpList _ _ _ (_ :: _) _ _; (first | (guard_target =~ wpList _ _ _ (Oper.mk _ (.load _ _) _ _ _ _ :: _) _ _; refine BigFrame.wpList_want rfl (fun K hK => ?_); (refine o_loadC (v := ?_) (row := ?_) rfl rfl H ?_ ?_ ?_ (hK _ _ ?_); rotate_left 2; (repeat first | exact .head _ | apply List.Mem.tail); (exact rfl); (focus (intro _; simp; done))); clear hK K) | ((guard_target =~ wpList _ _ _ (Oper.mk _ (.box _ _) _ _ _ _ :: _) _ _; refine BigFrame.wpList_want rfl (fun K hK => ?_); refine o_box rfl H rfl (fun w3 b2 he H2 => hK _ _ ?_)); clear hK K he; clear H; (try clear w2); revert w3; intro w2 H; simp [Act.eval, Value.cells, setL, List.getD] at H; (first | (clear tk0; rename Nat => d2) | (clear tk1; rename Nat => d3)))); simp only [Act.put, List.setIfInBounds_toArray, List.set_cons_succ, List.set_cons_zero]))
    go_ret
    exact ⟨rfl, H.below⟩
end Go.Proofs.Ytmmieilogpmocaa

/-
  The walks of the document's layer 4: a fraction of any numbers, do two numbers fit, how two fractions stand to each other, a sign.
-/
namespace Go.Proofs.Ytmmieilogpmocaa
set_option linter.unusedVariables false
set_option linter.unusedSimpArgs false
open Go.RowKit

theorem len_zero {l : List Nat} {z : Int} (g : CnI l z) : (z = 0 ∧ ((l.length : Int) == 0) = true) ∨ (z ≠ 0 ∧ ((l.length : Int) == 0) = false) := by
  by_cases h : z = 0
  · have := g.nil_iff.2 h
    subst this
    exact .inl ⟨h, rfl⟩
  · have : 0 < l.length := List.length_pos_iff.2 fun hl => h (g.nil_iff.1 hl)
    exact .inr ⟨h, by simp; intro hh; rw [hh] at this; simp at this⟩
theorem mkV_form (n d : Int) : ∃ p q, mkV n d = rV p q := by
  unfold mkV
  split
  · exact ⟨_, _, rfl⟩
  · exact ⟨_, _, rfl⟩
set_option maxRecDepth 100000 in
set_option maxHeartbeats 8000000 in
theorem ref4Make_any (n d : Int) (hn : R256 n) (hd : R256 d) (w : World) :
    Calls Try.prog 16 #[iV n, iV d] w fun e w' => e = .returned (.tuple #[mkV n d, .int .i64 (mkE n d)]) ∧ Below w.heap.size w w' := by
  have H := Own.start w
  have hF : ∀ k : Nat, (fun _ : Nat => False) k → k < w.heap.size := fun k h => h.elim
  have ofn := fun F w hF => refOf_any F w hF n hn
  have ofd := fun F w hF => refOf_any F w hF d hd
  have fn1 := field_num1
  by_cases h0 : d = 0
  · subst h0
    rw [show mkV n 0 = rV 0 0 by unfold mkV mkE; simp, show mkE n 0 = 4 by unfold mkE; simp]
    unfold RetN at ofd
    go_enter Try.func16, Try.ntmps16
    have tk0 : True := trivial
    have tk1 : True := trivial
    have tk2 : True := trivial
    go_wp2_with (first
      | (guard_target =~ bodyPost _ _ _ _ _ _; refine Stopped.out ?_)
      | (go_at_call 56; (with_reducible refine (ofd (FW (fun _ => False) _) _ (H.fw_lt rfl hF)).mono ?_); rintro e w3 ⟨A5, k5, l5, rfl, hb, s5, g5, q5, p5⟩; replace H := H.ext hb; clear hb; obtain ⟨b5, o5, H4, f5⟩ := H.addSl s5; clear H s5; have H := H4; clear H4; (obtain ⟨_, t1⟩ := (len_zero g5).resolve_right (fun hh => hh.1 rfl)); dsimp only; (skip))
      | (guard_target =~ wpList _ _ _ (_ :: _) _ _; (first | (guard_target =~ wpList _ _ _ (Oper.mk _ (.load _ _) _ _ _ _ :: _) _ _; refine BigFrame.wpList_want rfl (fun K hK => ?_); (refine o_loadNC (row := ?_) rfl rfl H ?_ ?_ ?_ (hK _ _ ?_); rotate_left 1; (repeat first | exact .head _ | apply List.Mem.tail); (focus (intro _; simp [cells_iV, iL_length, setL_i, setL_ii, agg_iL, cells_rV, rL_length, setL_r, setL_rr, agg_rL]; done)); (focus (intro _; simp [cells_iV, iL_length, setL_i, setL_ii, agg_iL, cells_rV, rL_length, setL_r, setL_rr, agg_rL]; done))); clear hK K) | (guard_target =~ wpList _ _ _ (Oper.mk _ (.build _ _) _ _ _ _ :: _) _ _; refine BigFrame.wpList_want rfl (fun K hK => ?_); (refine o_build (v := ?_) (ps := ?_) rfl ?_ ?_ (hK _ _ ?_); rotate_left 2; (focus (simp [Act.eval]; with_reducible exact rfl)); (focus (intro w4; with_reducible exact build_q0 w4))); clear hK K) | (guard_target =~ wpList _ _ _ (Oper.mk _ (.store _ _ _) _ _ _ _ :: _) _ _; refine BigFrame.wpList_want rfl (fun K hK => ?_); refine o_store (l' := ?_) (row := ?_) rfl rfl H rfl ?_ ?_ ?_ ?_ (fun w3 H2 => hK _ _ ?_); rotate_left 2; (exact r1); (focus (intro _; (simp [Act.eval, List.getD, cells_iV, iL_length, setL_i, setL_ii, agg_iL, cells_rV, rL_length, setL_r, setL_rr, agg_rL]; done))); (focus (simp [Act.eval, List.getD, cells_iV, iL_length, setL_i, setL_ii, agg_iL, cells_rV, rL_length, setL_r, setL_rr, agg_rL]; done)); (exact rfl); clear hK K; clear H; (try clear w2); revert w3; intro w2 H; (try simp [Act.eval, List.getD, cells_iV, iL_length, setL_i, setL_ii, agg_iL, cells_rV, rL_length, setL_r, setL_rr, agg_rL] at H); (try simp [Value.cells, setL, cells_iV, iL_length, setL_i, setL_ii, agg_iL, cells_rV, rL_length, setL_r, setL_rr, agg_rL] at H)) | ((first | (guard_target =~ wpList _ _ _ (Oper.mk _ (.alloc _) _ _ _ _ :: _) _ _; refine BigFrame.wpList_want rfl (fun K hK => ?_); refine o_alloc (z := ?_) rfl ?_ H rfl (fun w3 b2 he H2 => hK _ _ ?_); rotate_left 1; (focus (intro _; simp; with_reducible exact rfl))) | (guard_target =~ wpList _ _ _ (Oper.mk _ (.box _ _) _ _ _ _ :: _) _ _; refine BigFrame.wpList_want rfl (fun K hK => ?_); refine o_box rfl H rfl (fun w3 b2 he H2 => hK _ _ ?_))); clear hK K he; clear H; (try clear w2); revert w3; intro w2 H; (try simp [Act.eval, List.getD, cells_iV, iL_length, setL_i, setL_ii, agg_iL, cells_rV, rL_length, setL_r, setL_rr, agg_rL] at H); (try simp [Value.cells, setL, cells_iV, iL_length, setL_i, setL_ii, agg_iL, cells_rV, rL_length, setL_r, setL_rr, agg_rL] at H); (first | (clear tk0; rename Nat => c1) | (clear tk1; rename Nat => c2) | (clear tk2; rename Nat => c3)))); simp only [Act.put, List.setIfInBounds_toArray, List.set_cons_succ, List.set_cons_zero, cells_iV, iL_length, setL_i, setL_ii, agg_iL, cells_rV, rL_length, setL_r, setL_rr, agg_rL]))
    have hr := H.loadVarN (P := Try.prog) (ty := 31) m1 (by simp) (by simp [rL_length])
    exact ⟨bodyPost_ret (v := .tuple #[rV 0 0, .int .i64 4]) (by simp [results, Try.results16, asAddr, hr, agg_rL]) rfl ⟨rfl, H.below⟩⟩
  · have hM := fun F w hF A1 A2 c1 c2 a b => refMade_any F w hF A1 A2 c1 c2 a b n d hn hd h0
    obtain ⟨p, q, e⟩ := mkV_form n d
    rw [e] at hM ⊢
    generalize mkE n d = u at *
    clear e
    go_enter Try.func16, Try.ntmps16
    have tk0 : True := trivial
    have tk1 : True := trivial
    have tk2 : True := trivial
    go_wp2_with (first
      | (guard_target =~ bodyPost _ _ _ _ _ _; refine Stopped.out ?_)
      | (guard_target =~ Code.wp _ (Code.region 3 _ true) _ _ _; replace H := H.front1; refine region_tree 3 1 (G := True) (.q 0 (.q 2 (.e 1 (.e 3 (.e 4 (.q 5 (.q 6 (.e 7 (.q 8 .nil))))))))) (by kernel_rfl) (by intro c a d v w h; cases d <;> exact h) (by kernel_rfl) H ⟨trivial⟩ (fun _ w3 H2 => ?_); (clear H; (try clear w2); revert w3; intro w2 H); simp only [List.drop_succ_cons, List.drop_zero])
      | (go_at_call 56; (with_reducible refine (ofd (FW (fun _ => False) _) _ (H.fw_lt rfl hF)).mono ?_); rintro e w3 ⟨A5, k5, l5, rfl, hb, s5, g5, q5, p5⟩; replace H := H.ext hb; clear hb; obtain ⟨b5, o5, H4, f5⟩ := H.addSl s5; clear H s5; have H := H4; clear H4; (obtain ⟨_, t1⟩ := (len_zero g5).resolve_left (fun hh => h0 hh.1)); dsimp only; (first | (refine hK _ _ ⟨_, H, by repeat first | exact .here | apply Suf.there⟩ ?_; clear hK K; (try simp only [Act.put, List.setIfInBounds_toArray, List.set_cons_succ, List.set_cons_zero, cells_iV, iL_length, setL_i, setL_ii, agg_iL, cells_rV, rL_length, setL_r, setL_rr, agg_rL])) | skip))
      | (go_at_call 56; (with_reducible refine (ofn (FW (fun _ => False) _) _ (H.fw_lt rfl hF)).mono ?_); rintro e w3 ⟨A6, k6, l6, rfl, hb, s6, g6, q6, p6⟩; replace H := H.ext hb; clear hb; obtain ⟨b6, o6, H4, f6⟩ := H.addSl s6; clear H s6; have H := H4; clear H4; dsimp only; (refine hK _ _ ⟨_, H, by repeat first | exact .here | apply Suf.there⟩ ?_; clear hK K; (try simp only [Act.put, List.setIfInBounds_toArray, List.set_cons_succ, List.set_cons_zero, cells_iV, iL_length, setL_i, setL_ii, agg_iL, cells_rV, rL_length, setL_r, setL_rr, agg_rL])))
      | (go_at_call 57; (with_reducible refine (hM (FW (fun _ => False) _) _ (H.fw_lt rfl hF) _ _ _ _ l6 l5 (by exact H.giveRd m1 f6) (by exact H.giveRd m0 f5) g6 g5 q6 q5 p6 p5).mono ?_); rintro e w3 ⟨rfl, hb⟩; replace H := H.ext hb; clear hb; dsimp only; (refine hK _ _ ⟨_, H, by repeat first | exact .here | apply Suf.there⟩ ?_; clear hK K; (try simp only [Act.put, List.setIfInBounds_toArray, List.set_cons_succ, List.set_cons_zero, cells_iV, iL_length, setL_i, setL_ii, agg_iL, cells_rV, rL_length, setL_r, setL_rr, agg_rL])))
      | (guard_target =~ wpList _ _ _ (_ :: _) _ _; (first | (guard_target =~ wpList _ _ _ (Oper.mk _ (.load _ _) _ _ _ _ :: _) _ _; refine BigFrame.wpList_want rfl (fun K hK => ?_); (refine o_loadNC (row := ?_) rfl rfl H ?_ ?_ ?_ (hK _ _ ?_); rotate_left 1; (repeat first | exact .head _ | apply List.Mem.tail); (focus (intro _; simp [cells_iV, iL_length, setL_i, setL_ii, agg_iL, cells_rV, rL_length, setL_r, setL_rr, agg_rL]; done)); (focus (intro _; simp [cells_iV, iL_length, setL_i, setL_ii, agg_iL, cells_rV, rL_length, setL_r, setL_rr, agg_rL]; done))); clear hK K) | ((first | (guard_target =~ wpList _ _ _ (Oper.mk _ (.alloc _) _ _ _ _ :: _) _ _; refine BigFrame.wpList_want rfl (fun K hK => ?_); refine o_alloc (z := ?_) rfl ?_ H rfl (fun w3 b2 he H2 => hK _ _ ?_); rotate_left 1; (focus (intro _; simp; with_reducible exact rfl))) | (guard_target =~ wpList _ _ _ (Oper.mk _ (.box _ _) _ _ _ _ :: _) _ _; refine BigFrame.wpList_want rfl (fun K hK => ?_); refine o_box rfl H rfl (fun w3 b2 he H2 => hK _ _ ?_))); clear hK K he; clear H; (try clear w2); revert w3; intro w2 H; (try simp [Act.eval, List.getD, cells_iV, iL_length, setL_i, setL_ii, agg_iL, cells_rV, rL_length, setL_r, setL_rr, agg_rL] at H); (try simp [Value.cells, setL, cells_iV, iL_length, setL_i, setL_ii, agg_iL, cells_rV, rL_length, setL_r, setL_rr, agg_rL] at H); (first | (clear tk0; rename Nat => c1) | (clear tk1; rename Nat => c2) | (clear tk2; rename Nat => c3)))); simp only [Act.put, List.setIfInBounds_toArray, List.set_cons_succ, List.set_cons_zero, cells_iV, iL_length, setL_i, setL_ii, agg_iL, cells_rV, rL_length, setL_r, setL_rr, agg_rL])
      | (guard_target =~ wpTree _ _ _ _ _ _ _; first | (guard_target =~ wpTree _ _ _ (Tr.q _ _) _ _ _; first | (refine tree_quiet ⟨_, H, by repeat first | exact .here | apply Suf.there⟩ rfl rfl rfl (fun K hK => ?_); simp only [List.getElem_toArray, List.getElem_cons_succ, List.getElem_cons_zero]; first | (guard_target =~ Oper.quiet _ (Oper.mk _ (.load _ _) _ _ _ _) _ _ _; (refine q_loadNC (row := ?_) rfl rfl ?_ ?_ ?_ (hK _ ?_); rotate_left 1; (repeat first | exact .head _ | apply List.Mem.tail); (focus (intro _; simp [cells_iV, iL_length, setL_i, setL_ii, agg_iL, cells_rV, rL_length, setL_r, setL_rr, agg_rL]; done)); (focus (intro _; simp [cells_iV, iL_length, setL_i, setL_ii, agg_iL, cells_rV, rL_length, setL_r, setL_rr, agg_rL]; done))); clear hK K; simp only [Act.put, List.setIfInBounds_toArray, List.set_cons_succ, List.set_cons_zero, cells_iV, iL_length, setL_i, setL_ii, agg_iL, cells_rV, rL_length, setL_r, setL_rr, agg_rL]) | (go_big_quiet_op; (try refine ⟨_, fun _ _ => rfl, ?_⟩); refine hK _ ?_; clear hK K)) | (refine tree_skip ⟨_, H, by repeat first | exact .here | apply Suf.there⟩ rfl rfl ?_; simp only [List.getElem_toArray, List.getElem_cons_succ, List.getElem_cons_zero, Act.put, List.setIfInBounds_toArray, List.set_cons_succ, List.set_cons_zero])) | (guard_target =~ wpTree _ _ _ (Tr.both _ _) _ _ _; refine tree_both ?_ ?_) | (guard_target =~ wpTree _ _ _ (Tr.e _ _) _ _ _; first | (refine tree_one rfl rfl (fun K hK => ?_); simp only [List.getElem_toArray, List.getElem_cons_succ, List.getElem_cons_zero]; first | ((guard_target =~ Oper.wp _ (Oper.mk _ (.store _ _ _) _ _ _ _) _ _ _ _; refine o_store (l' := ?_) (row := ?_) rfl rfl H rfl ?_ ?_ ?_ ?_ (fun w3 H2 => hK _ _ ⟨_, H2, ?_⟩ ?_); rotate_left 2; (exact r2); (focus (intro _; (simp [Act.eval, List.getD, cells_iV, iL_length, setL_i, setL_ii, agg_iL, cells_rV, rL_length, setL_r, setL_rr, agg_rL]; done))); (focus (simp [Act.eval, List.getD, cells_iV, iL_length, setL_i, setL_ii, agg_iL, cells_rV, rL_length, setL_r, setL_rr, agg_rL]; done)); (exact rfl); (guard_target =~ Suf _ _; repeat first | exact .here | apply Suf.there); clear hK K; clear H; (try clear w2); revert w3; intro w2 H; (try simp [Act.eval, List.getD, cells_iV, iL_length, setL_i, setL_ii, agg_iL, cells_rV, rL_length, setL_r, setL_rr, agg_rL] at H); (try simp [Value.cells, setL, cells_iV, iL_length, setL_i, setL_ii, agg_iL, cells_rV, rL_length, setL_r, setL_rr, agg_rL] at H)); simp only [Act.put, List.setIfInBounds_toArray, List.set_cons_succ, List.set_cons_zero, cells_iV, iL_length, setL_i, setL_ii, agg_iL, cells_rV, rL_length, setL_r, setL_rr, agg_rL]) | (go_big_op; (skip))) | (refine tree_one_skip ⟨_, H, by repeat first | exact .here | apply Suf.there⟩ rfl rfl ?_; simp only [List.getElem_toArray, List.getElem_cons_succ, List.getElem_cons_zero, Act.put, List.setIfInBounds_toArray, List.set_cons_succ, List.set_cons_zero])) | (guard_target =~ wpTree _ _ _ Tr.nil _ _ _; refine tree_nil ?_)))
    have hr := H.loadVarN (P := Try.prog) (ty := 31) m2 (by simp) (by simp [rL_length])
    exact ⟨bodyPost_ret (v := .tuple #[rV p q, .int .i64 u]) (by simp [results, Try.results16, asAddr, hr, agg_rL]) rfl ⟨rfl, H.below⟩⟩

/-- Two numbers side by side, as cells. -/
def numL (x : Int) (A : Option Addr) (l : List Nat) (c : Nat) : List Value := [.bool (decide (x < 0)), .slice A l.length c]
def FitRel (w : World) (b0 o0 b1 o1 b2 o2 : Nat) (A1 A2 : Option Addr) (r0 : List Value) (a b : List Nat) (v1 v2 : Bool) (k : Nat) (i : Value) (wr : World) : Prop :=
  ∃ j L, j + k = 2 ∧ i = .int .i64 ((j : Nat) : Int) ∧ (0 < j → v1 = true) ∧ (1 < j → v2 = true) ∧ Own w.heap.size w wr (L ++ [.rd (some ⟨b0, o0, none⟩) b0 o0 r0, .rd A1 b1 o1 (dl a), .rd A2 b2 o2 (dl b)])
set_option maxRecDepth 100000 in
set_option maxHeartbeats 8000000 in
theorem ref4Fit_any (F : Nat → Prop) (w : World) (hF : ∀ k, F k → k < w.heap.size) (S A1 A2 : Option Addr) (c1 c2 : Nat) (a b : List Nat) (x y : Int) (hs : Sl F w S [.bool (decide (x < 0)), .slice A1 a.length c1, .bool (decide (y < 0)), .slice A2 b.length c2])
    (ha : Sl F w A1 (dl a)) (hb : Sl F w A2 (dl b)) (ga : CnI a x) (gb : CnI b y) (la : a.length ≤ 1000) (lb : b.length ≤ 1000) (ma : a.length ≤ c1) (ma2 : c1 ≤ maxLen) (mb : b.length ≤ c2) (mb2 : c2 ≤ maxLen) :
    Calls Try.prog 80 #[.slice S 2 2] w fun e w' => e = .returned (.bool (decide (R256 x) && decide (R256 y))) ∧ Below w.heap.size w w' := by
  obtain ⟨b2, o2, H2, f2⟩ := (Own.start w).addSl (hb.ro (by rfl))
  obtain ⟨b1, o1, H1, f1⟩ := H2.addSl (ha.ro (by rfl))
  obtain ⟨b0, o0, H, f0⟩ := H1.addSl (hs.ro (by rfl))
  clear ha hb hs H2 H1
  have hS := H.rdAddr m0 (by simp)
  subst hS
  have h1 := fun F w hF ha => refWords_any F w hF A1 c1 a x ha ga la ma ma2
  have h2 := fun F w hF hb => refWords_any F w hF A2 c2 b y hb gb lb mb mb2
  generalize decide (R256 x) = v1 at *
  generalize decide (R256 y) = v2 at *
  have t0 : (Res.rd (some ⟨b0, o0, none⟩) b0 o0 [.bool (decide (x < 0)), .slice A1 a.length c1, .bool (decide (y < 0)), .slice A2 b.length c2]).at b0 (o0 + 0) [.bool (decide (x < 0)), .slice A1 a.length c1] := at_rdN rfl
  have t2 : (Res.rd (some ⟨b0, o0, none⟩) b0 o0 [.bool (decide (x < 0)), .slice A1 a.length c1, .bool (decide (y < 0)), .slice A2 b.length c2]).at b0 (o0 + 2) [.bool (decide (y < 0)), .slice A2 b.length c2] := at_rdN rfl
  simp only [Nat.add_zero] at t0
  clear ga gb la ma ma2 lb mb mb2
  generalize decide (x < 0) = sx at *
  generalize decide (y < 0) = sy at *
  generalize fitZ x = zx at *
  generalize fitZ y = zy at *
  go_enter Try.func80, Try.ntmps80
  go_wp2_with (first | fail)
  go_loopg [3] 2 (FitRel w b0 o0 b1 o1 b2 o2 A1 A2 [.bool sx, .slice A1 a.length c1, .bool sy, .slice A2 b.length c2] a b v1 v2)
  case atStart => exact ⟨0, [], rfl, rfl, by simp, by simp, H⟩
  case round =>
    clear H
    obtain ⟨j, L, hk, rfl, e1, e2, H⟩ := hrel
    match j, hk with
    | 0, hk =>
      obtain rfl : gk = 2 := by omega
      clear hk e1 e2
      replace H := H.sub (List.sublist_append_right L _)
      cases v1 with
      | false =>
        have tk0 : True := trivial
        go_wp2_with (first
          | (go_at_call 71; (with_reducible refine (h1 (FW F _) _ (H.fw_lt rfl hF) (by exact H.giveRd m1 f1)).mono ?_); rintro e w3 ⟨rfl, hb⟩; replace H := H.ext hb; clear hb; dsimp only)
          | (guard_target =~ wpList _ _ _ (_ :: _) _ _; (first | (guard_target =~ wpList _ _ _ (Oper.mk _ (.load _ _) _ _ _ _ :: _) _ _; refine BigFrame.wpList_want rfl (fun K hK => ?_); (refine o_loadN (cs := ?_) (r := ?_) rfl rfl H ?_ ?_ ?_ ?_ (hK _ _ ?_); rotate_left 2; (with_reducible assumption); (repeat first | exact .head _ | apply List.Mem.tail); (focus (intro _; simp [cells_iV, iL_length, setL_i, setL_ii, agg_iL]; done)); (focus (intro _; simp [cells_iV, iL_length, setL_i, setL_ii, agg_iL]; done))); clear hK K) | (guard_target =~ wpList _ _ _ (Oper.mk _ (.store _ _ _) _ _ _ _ :: _) _ _; refine BigFrame.wpList_want rfl (fun K hK => ?_); refine o_store (l' := ?_) (row := ?_) rfl rfl H rfl ?_ ?_ ?_ ?_ (fun w3 H2 => hK _ _ ?_); rotate_left 2; (exact r0); (focus (intro _; (simp [Act.eval, List.getD, cells_iV, iL_length, setL_i, setL_ii, agg_iL]; done))); (focus (simp [Act.eval, List.getD, cells_iV, iL_length, setL_i, setL_ii, agg_iL]; done)); (exact rfl); clear hK K; clear H; (try clear w2); revert w3; intro w2 H; (try simp [Act.eval, List.getD, cells_iV, iL_length, setL_i, setL_ii, agg_iL] at H); (try simp [Value.cells, setL, cells_iV, iL_length, setL_i, setL_ii, agg_iL] at H)) | ((guard_target =~ wpList _ _ _ (Oper.mk _ (.alloc _) _ _ _ _ :: _) _ _; refine BigFrame.wpList_want rfl (fun K hK => ?_); refine o_alloc (z := ?_) rfl ?_ H rfl (fun w3 b2 he H2 => hK _ _ ?_); rotate_left 1; (focus (intro _; simp; with_reducible exact rfl))); clear hK K he; clear H; (try clear w2); revert w3; intro w2 H; (try simp [Act.eval, List.getD, cells_iV, iL_length, setL_i, setL_ii, agg_iL] at H); (try simp [Value.cells, setL, cells_iV, iL_length, setL_i, setL_ii, agg_iL] at H); (clear tk0; rename Nat => c1))); simp only [Act.put, List.setIfInBounds_toArray, List.set_cons_succ, List.set_cons_zero, cells_iV, iL_length, setL_i, setL_ii, agg_iL]))
        go_ret
        exact ⟨by simp, H.below⟩
      | true =>
        have tk0 : True := trivial
        go_wp2_with (first
          | (go_at_call 71; (with_reducible refine (h1 (FW F _) _ (H.fw_lt rfl hF) (by exact H.giveRd m1 f1)).mono ?_); rintro e w3 ⟨rfl, hb⟩; replace H := H.ext hb; clear hb; dsimp only)
          | (guard_target =~ wpList _ _ _ (_ :: _) _ _; (first | (guard_target =~ wpList _ _ _ (Oper.mk _ (.load _ _) _ _ _ _ :: _) _ _; refine BigFrame.wpList_want rfl (fun K hK => ?_); (refine o_loadN (cs := ?_) (r := ?_) rfl rfl H ?_ ?_ ?_ ?_ (hK _ _ ?_); rotate_left 2; (with_reducible assumption); (repeat first | exact .head _ | apply List.Mem.tail); (focus (intro _; simp [cells_iV, iL_length, setL_i, setL_ii, agg_iL]; done)); (focus (intro _; simp [cells_iV, iL_length, setL_i, setL_ii, agg_iL]; done))); clear hK K) | (guard_target =~ wpList _ _ _ (Oper.mk _ (.store _ _ _) _ _ _ _ :: _) _ _; refine BigFrame.wpList_want rfl (fun K hK => ?_); refine o_store (l' := ?_) (row := ?_) rfl rfl H rfl ?_ ?_ ?_ ?_ (fun w3 H2 => hK _ _ ?_); rotate_left 2; (exact r0); (focus (intro _; (simp [Act.eval, List.getD, cells_iV, iL_length, setL_i, setL_ii, agg_iL]; done))); (focus (simp [Act.eval, List.getD, cells_iV, iL_length, setL_i, setL_ii, agg_iL]; done)); (exact rfl); clear hK K; clear H; (try clear w2); revert w3; intro w2 H; (try simp [Act.eval, List.getD, cells_iV, iL_length, setL_i, setL_ii, agg_iL] at H); (try simp [Value.cells, setL, cells_iV, iL_length, setL_i, setL_ii, agg_iL] at H)) | ((guard_target =~ wpList _ _ _ (Oper.mk _ (.alloc _) _ _ _ _ :: _) _ _; refine BigFrame.wpList_want rfl (fun K hK => ?_); refine o_alloc (z := ?_) rfl ?_ H rfl (fun w3 b2 he H2 => hK _ _ ?_); rotate_left 1; (focus (intro _; simp; with_reducible exact rfl))); clear hK K he; clear H; (try clear w2); revert w3; intro w2 H; (try simp [Act.eval, List.getD, cells_iV, iL_length, setL_i, setL_ii, agg_iL] at H); (try simp [Value.cells, setL, cells_iV, iL_length, setL_i, setL_ii, agg_iL] at H); (clear tk0; rename Nat => c1))); simp only [Act.put, List.setIfInBounds_toArray, List.set_cons_succ, List.set_cons_zero, cells_iV, iL_length, setL_i, setL_ii, agg_iL]))
        go_roundg 1
        case rel => exact ⟨1, [_], rfl, rfl, by simp, by simp, H⟩
        case measure => omega
    | 1, hk =>
      obtain rfl : gk = 1 := by omega
      obtain rfl := e1 (by omega)
      clear hk e1 e2
      replace H := H.sub (List.sublist_append_right L _)
      cases v2 with
      | false =>
        have tk0 : True := trivial
        go_wp2_with (first
          | (go_at_call 71; (with_reducible refine (h2 (FW F _) _ (H.fw_lt rfl hF) (by exact H.giveRd m2 f2)).mono ?_); rintro e w3 ⟨rfl, hb⟩; replace H := H.ext hb; clear hb; dsimp only)
          | (guard_target =~ wpList _ _ _ (_ :: _) _ _; (first | (guard_target =~ wpList _ _ _ (Oper.mk _ (.load _ _) _ _ _ _ :: _) _ _; refine BigFrame.wpList_want rfl (fun K hK => ?_); (refine o_loadN (cs := ?_) (r := ?_) rfl rfl H ?_ ?_ ?_ ?_ (hK _ _ ?_); rotate_left 2; (with_reducible assumption); (repeat first | exact .head _ | apply List.Mem.tail); (focus (intro _; simp [cells_iV, iL_length, setL_i, setL_ii, agg_iL]; done)); (focus (intro _; simp [cells_iV, iL_length, setL_i, setL_ii, agg_iL]; done))); clear hK K) | (guard_target =~ wpList _ _ _ (Oper.mk _ (.store _ _ _) _ _ _ _ :: _) _ _; refine BigFrame.wpList_want rfl (fun K hK => ?_); refine o_store (l' := ?_) (row := ?_) rfl rfl H rfl ?_ ?_ ?_ ?_ (fun w3 H2 => hK _ _ ?_); rotate_left 2; (exact r0); (focus (intro _; (simp [Act.eval, List.getD, cells_iV, iL_length, setL_i, setL_ii, agg_iL]; done))); (focus (simp [Act.eval, List.getD, cells_iV, iL_length, setL_i, setL_ii, agg_iL]; done)); (exact rfl); clear hK K; clear H; (try clear w2); revert w3; intro w2 H; (try simp [Act.eval, List.getD, cells_iV, iL_length, setL_i, setL_ii, agg_iL] at H); (try simp [Value.cells, setL, cells_iV, iL_length, setL_i, setL_ii, agg_iL] at H)) | ((guard_target =~ wpList _ _ _ (Oper.mk _ (.alloc _) _ _ _ _ :: _) _ _; refine BigFrame.wpList_want rfl (fun K hK => ?_); refine o_alloc (z := ?_) rfl ?_ H rfl (fun w3 b2 he H2 => hK _ _ ?_); rotate_left 1; (focus (intro _; simp; with_reducible exact rfl))); clear hK K he; clear H; (try clear w2); revert w3; intro w2 H; (try simp [Act.eval, List.getD, cells_iV, iL_length, setL_i, setL_ii, agg_iL] at H); (try simp [Value.cells, setL, cells_iV, iL_length, setL_i, setL_ii, agg_iL] at H); (clear tk0; rename Nat => c1))); simp only [Act.put, List.setIfInBounds_toArray, List.set_cons_succ, List.set_cons_zero, cells_iV, iL_length, setL_i, setL_ii, agg_iL]))
        go_ret
        exact ⟨by simp, H.below⟩
      | true =>
        have tk0 : True := trivial
        go_wp2_with (first
          | (go_at_call 71; (with_reducible refine (h2 (FW F _) _ (H.fw_lt rfl hF) (by exact H.giveRd m2 f2)).mono ?_); rintro e w3 ⟨rfl, hb⟩; replace H := H.ext hb; clear hb; dsimp only)
          | (guard_target =~ wpList _ _ _ (_ :: _) _ _; (first | (guard_target =~ wpList _ _ _ (Oper.mk _ (.load _ _) _ _ _ _ :: _) _ _; refine BigFrame.wpList_want rfl (fun K hK => ?_); (refine o_loadN (cs := ?_) (r := ?_) rfl rfl H ?_ ?_ ?_ ?_ (hK _ _ ?_); rotate_left 2; (with_reducible assumption); (repeat first | exact .head _ | apply List.Mem.tail); (focus (intro _; simp [cells_iV, iL_length, setL_i, setL_ii, agg_iL]; done)); (focus (intro _; simp [cells_iV, iL_length, setL_i, setL_ii, agg_iL]; done))); clear hK K) | (guard_target =~ wpList _ _ _ (Oper.mk _ (.store _ _ _) _ _ _ _ :: _) _ _; refine BigFrame.wpList_want rfl (fun K hK => ?_); refine o_store (l' := ?_) (row := ?_) rfl rfl H rfl ?_ ?_ ?_ ?_ (fun w3 H2 => hK _ _ ?_); rotate_left 2; (exact r0); (focus (intro _; (simp [Act.eval, List.getD, cells_iV, iL_length, setL_i, setL_ii, agg_iL]; done))); (focus (simp [Act.eval, List.getD, cells_iV, iL_length, setL_i, setL_ii, agg_iL]; done)); (exact rfl); clear hK K; clear H; (try clear w2); revert w3; intro w2 H; (try simp [Act.eval, List.getD, cells_iV, iL_length, setL_i, setL_ii, agg_iL] at H); (try simp [Value.cells, setL, cells_iV, iL_length, setL_i, setL_ii, agg_iL] at H)) | ((guard_target =~ wpList _ _ _ (Oper.mk _ (.alloc _) _ _ _ _ :: _) _ _; refine BigFrame.wpList_want rfl (fun K hK => ?_); refine o_alloc (z := ?_) rfl ?_ H rfl (fun w3 b2 he H2 => hK _ _ ?_); rotate_left 1; (focus (intro _; simp; with_reducible exact rfl))); clear hK K he; clear H; (try clear w2); revert w3; intro w2 H; (try simp [Act.eval, List.getD, cells_iV, iL_length, setL_i, setL_ii, agg_iL] at H); (try simp [Value.cells, setL, cells_iV, iL_length, setL_i, setL_ii, agg_iL] at H); (clear tk0; rename Nat => c1))); simp only [Act.put, List.setIfInBounds_toArray, List.set_cons_succ, List.set_cons_zero, cells_iV, iL_length, setL_i, setL_ii, agg_iL]))
        go_roundg 0
        case rel => exact ⟨2, [_], rfl, rfl, by simp, by simp, H⟩
        case measure => omega
    | j + 2, hk =>
      obtain ⟨rfl, rfl⟩ : j = 0 ∧ gk = 0 := by omega
      obtain rfl := e1 (by omega)
      obtain rfl := e2 (by omega)
      clear hk e1 e2
      go_wp2_with (first | fail)
      go_ret
      exact ⟨by simp, H.below⟩
set_option maxRecDepth 100000 in
set_option maxHeartbeats 8000000 in
theorem ref4Cmp_any (n d m e : Int) (hn : R256 n) (hd : R256 d) (hm : R256 m) (he : R256 e) (w : World) :
    Calls Try.prog 40 #[rV n d, rV m e] w fun e' w' => e' = .returned (.int .i64 (cmpZ (n * e) (m * d))) ∧ Below w.heap.size w w' := by
  have H := Own.start w
  have hF : ∀ k : Nat, (fun _ : Nat => False) k → k < w.heap.size := fun k h => h.elim
  have on := fun F w hF => refOf_any F w hF n hn
  have od := fun F w hF => refOf_any F w hF d hd
  have om := fun F w hF => refOf_any F w hF m hm
  have oe := fun F w hF => refOf_any F w hF e he
  have u1 := fun F w hF A1 A2 k1 k2 a b ha hb ga gb ma mb => refMul_any F w hF A1 A2 k1 k2 a b n e ha hb ga gb (fit450 hn ga) (fit450 he gb) ma mb
  have u2 := fun F w hF A1 A2 k1 k2 a b ha hb ga gb ma mb => refMul_any F w hF A1 A2 k1 k2 a b m d ha hb ga gb (fit450 hm ga) (fit450 hd gb) ma mb
  have hC := fun F w hF A1 A2 k1 k2 a b ha hb ga gb => refCmp_any F w hF A1 A2 k1 k2 a b (n * e) (m * d) ha hb ga gb (fit1000 (wide_mul hn he) ga) (fit1000 (wide_mul hm hd) gb)
  rw [show cmpR (n * e) (m * d) = cmpZ (n * e) (m * d) from rfl] at hC
  generalize cmpZ (n * e) (m * d) = z at *
  go_enter Try.func40, Try.ntmps40
  have tk0 : True := trivial
  have tk1 : True := trivial
  go_wp2_with (first
    | (guard_target =~ Code.wp _ (Code.region 1 _ true) _ _ _; refine region_tree0 1 (G := True) (.q 0 (.q 1 (.q 3 (.q 4 (.q 7 (.q 8 (.q 10 (.q 11 (.e 2 (.e 5 (.e 6 (.e 9 (.e 12 (.e 13 (.e 14 (.q 15 .nil)))))))))))))))) (by kernel_rfl) (by intro c a d v w h; cases d <;> exact h) (by kernel_rfl) H ⟨trivial⟩ (fun _ w3 H2 => ?_); (clear H; (try clear w2); revert w3; intro w2 H))
    | (go_at_call 56; (with_reducible refine (on (FW (fun _ => False) _) _ (H.fw_lt rfl hF)).mono ?_); rintro e w3 ⟨A5, k5, l5, rfl, hb, s5, g5, q5, p5⟩; replace H := H.ext hb; clear hb; obtain ⟨b5, o5, H4, f5⟩ := H.addSl s5; clear H s5; have H := H4; clear H4; dsimp only; (refine hK _ _ ⟨_, H, by repeat first | exact .here | apply Suf.there⟩ ?_; clear hK K; (try simp only [Act.put, List.setIfInBounds_toArray, List.set_cons_succ, List.set_cons_zero, cells_iV, iL_length, setL_i, setL_ii, agg_iL, cells_rV, rL_length, setL_r, setL_rr, agg_rL])))
    | (go_at_call 56; (with_reducible refine (oe (FW (fun _ => False) _) _ (H.fw_lt rfl hF)).mono ?_); rintro e w3 ⟨A6, k6, l6, rfl, hb, s6, g6, q6, p6⟩; replace H := H.ext hb; clear hb; obtain ⟨b6, o6, H4, f6⟩ := H.addSl s6; clear H s6; have H := H4; clear H4; dsimp only; (refine hK _ _ ⟨_, H, by repeat first | exact .here | apply Suf.there⟩ ?_; clear hK K; (try simp only [Act.put, List.setIfInBounds_toArray, List.set_cons_succ, List.set_cons_zero, cells_iV, iL_length, setL_i, setL_ii, agg_iL, cells_rV, rL_length, setL_r, setL_rr, agg_rL])))
    | (go_at_call 56; (with_reducible refine (om (FW (fun _ => False) _) _ (H.fw_lt rfl hF)).mono ?_); rintro e w3 ⟨A7, k7, l7, rfl, hb, s7, g7, q7, p7⟩; replace H := H.ext hb; clear hb; obtain ⟨b7, o7, H4, f7⟩ := H.addSl s7; clear H s7; have H := H4; clear H4; dsimp only; (refine hK _ _ ⟨_, H, by repeat first | exact .here | apply Suf.there⟩ ?_; clear hK K; (try simp only [Act.put, List.setIfInBounds_toArray, List.set_cons_succ, List.set_cons_zero, cells_iV, iL_length, setL_i, setL_ii, agg_iL, cells_rV, rL_length, setL_r, setL_rr, agg_rL])))
    | (go_at_call 56; (with_reducible refine (od (FW (fun _ => False) _) _ (H.fw_lt rfl hF)).mono ?_); rintro e w3 ⟨A8, k8, l8, rfl, hb, s8, g8, q8, p8⟩; replace H := H.ext hb; clear hb; obtain ⟨b8, o8, H4, f8⟩ := H.addSl s8; clear H s8; have H := H4; clear H4; dsimp only; (refine hK _ _ ⟨_, H, by repeat first | exact .here | apply Suf.there⟩ ?_; clear hK K; (try simp only [Act.put, List.setIfInBounds_toArray, List.set_cons_succ, List.set_cons_zero, cells_iV, iL_length, setL_i, setL_ii, agg_iL, cells_rV, rL_length, setL_r, setL_rr, agg_rL])))
    | (go_at_call 74; (with_reducible refine (u1 (FW (fun _ => False) _) _ (H.fw_lt rfl hF) _ _ _ _ l5 l6 (by first | exact H.giveRd m1 f5 | exact H.giveRd m4 f5) (by first | exact H.giveRd m0 f6 | exact H.giveRd m3 f6) g5 g6 q5 q6).mono ?_); rintro e w3 ⟨A9, k9, l9, rfl, hb, s9, g9, q9, p9⟩; replace H := H.ext hb; clear hb; obtain ⟨b9, o9, H4, f9⟩ := H.addSl s9; clear H s9; have H := H4; clear H4; dsimp only; (refine hK _ _ ⟨_, H, by repeat first | exact .here | apply Suf.there⟩ ?_; clear hK K; (try simp only [Act.put, List.setIfInBounds_toArray, List.set_cons_succ, List.set_cons_zero, cells_iV, iL_length, setL_i, setL_ii, agg_iL, cells_rV, rL_length, setL_r, setL_rr, agg_rL])))
    | (go_at_call 74; (with_reducible refine (u2 (FW (fun _ => False) _) _ (H.fw_lt rfl hF) _ _ _ _ l7 l8 (by exact H.giveRd m1 f7) (by exact H.giveRd m0 f8) g7 g8 q7 q8).mono ?_); rintro e w3 ⟨A10, k10, l10, rfl, hb, s10, g10, q10, p10⟩; replace H := H.ext hb; clear hb; obtain ⟨b10, o10, H4, f10⟩ := H.addSl s10; clear H s10; have H := H4; clear H4; dsimp only; (refine hK _ _ ⟨_, H, by repeat first | exact .here | apply Suf.there⟩ ?_; clear hK K; (try simp only [Act.put, List.setIfInBounds_toArray, List.set_cons_succ, List.set_cons_zero, cells_iV, iL_length, setL_i, setL_ii, agg_iL, cells_rV, rL_length, setL_r, setL_rr, agg_rL])))
    | (go_at_call 73; (with_reducible refine (hC (FW (fun _ => False) _) _ (H.fw_lt rfl hF) _ _ _ _ l9 l10 (by exact H.giveRd m3 f9) (by exact H.giveRd m0 f10) g9 g10).mono ?_); rintro e w3 ⟨rfl, hb⟩; replace H := H.ext hb; clear hb; dsimp only; (refine hK _ _ ⟨_, H, by repeat first | exact .here | apply Suf.there⟩ ?_; clear hK K; (try simp only [Act.put, List.setIfInBounds_toArray, List.set_cons_succ, List.set_cons_zero, cells_iV, iL_length, setL_i, setL_ii, agg_iL, cells_rV, rL_length, setL_r, setL_rr, agg_rL])))
    | (guard_target =~ wpList _ _ _ (_ :: _) _ _; ((guard_target =~ wpList _ _ _ (Oper.mk _ (.box _ _) _ _ _ _ :: _) _ _; refine BigFrame.wpList_want rfl (fun K hK => ?_); refine o_box rfl H rfl (fun w3 b2 he H2 => hK _ _ ?_)); clear hK K he; clear H; (try clear w2); revert w3; intro w2 H; (try simp [Act.eval, List.getD, cells_iV, iL_length, setL_i, setL_ii, agg_iL, cells_rV, rL_length, setL_r, setL_rr, agg_rL] at H); (try simp [Value.cells, setL, cells_iV, iL_length, setL_i, setL_ii, agg_iL, cells_rV, rL_length, setL_r, setL_rr, agg_rL] at H); (first | (clear tk0; rename Nat => c1) | (clear tk1; rename Nat => c2))); simp only [Act.put, List.setIfInBounds_toArray, List.set_cons_succ, List.set_cons_zero, cells_iV, iL_length, setL_i, setL_ii, agg_iL, cells_rV, rL_length, setL_r, setL_rr, agg_rL])
    | (guard_target =~ wpTree _ _ _ _ _ _ _; first | (guard_target =~ wpTree _ _ _ (Tr.q _ _) _ _ _; first | (refine tree_quiet ⟨_, H, by repeat first | exact .here | apply Suf.there⟩ rfl rfl rfl (fun K hK => ?_); simp only [List.getElem_toArray, List.getElem_cons_succ, List.getElem_cons_zero]; first | (guard_target =~ Oper.quiet _ (Oper.mk _ (.load _ _) _ _ _ _) _ _ _; (first | (refine q_loadNum (n := ?_) (d := ?_) rfl rfl ?_ ?_ ?_ (hK _ ?_); rotate_left 2; (repeat first | exact .head _ | apply List.Mem.tail); (focus (intro _; simp [cells_iV, iL_length, setL_i, setL_ii, agg_iL, cells_rV, rL_length, setL_r, setL_rr, agg_rL]; done)); (focus (intro _; simp [cells_iV, iL_length, setL_i, setL_ii, agg_iL, cells_rV, rL_length, setL_r, setL_rr, agg_rL]; done))) | (refine q_loadDen (n := ?_) (d := ?_) rfl rfl ?_ ?_ ?_ (hK _ ?_); rotate_left 2; (repeat first | exact .head _ | apply List.Mem.tail); (focus (intro _; simp [cells_iV, iL_length, setL_i, setL_ii, agg_iL, cells_rV, rL_length, setL_r, setL_rr, agg_rL]; done)); (focus (intro _; simp [cells_iV, iL_length, setL_i, setL_ii, agg_iL, cells_rV, rL_length, setL_r, setL_rr, agg_rL]; done)))); clear hK K; simp only [Act.put, List.setIfInBounds_toArray, List.set_cons_succ, List.set_cons_zero, cells_iV, iL_length, setL_i, setL_ii, agg_iL, cells_rV, rL_length, setL_r, setL_rr, agg_rL]) | (go_big_quiet_op; (try refine ⟨_, fun _ _ => rfl, ?_⟩); refine hK _ ?_; clear hK K)) | (refine tree_skip ⟨_, H, by repeat first | exact .here | apply Suf.there⟩ rfl rfl ?_; simp only [List.getElem_toArray, List.getElem_cons_succ, List.getElem_cons_zero, Act.put, List.setIfInBounds_toArray, List.set_cons_succ, List.set_cons_zero])) | (guard_target =~ wpTree _ _ _ (Tr.both _ _) _ _ _; refine tree_both ?_ ?_) | (guard_target =~ wpTree _ _ _ (Tr.e _ _) _ _ _; first | (refine tree_one rfl rfl (fun K hK => ?_); simp only [List.getElem_toArray, List.getElem_cons_succ, List.getElem_cons_zero]; first | ((first | fail); simp only [Act.put, List.setIfInBounds_toArray, List.set_cons_succ, List.set_cons_zero, cells_iV, iL_length, setL_i, setL_ii, agg_iL, cells_rV, rL_length, setL_r, setL_rr, agg_rL]) | (go_big_op; (skip))) | (refine tree_one_skip ⟨_, H, by repeat first | exact .here | apply Suf.there⟩ rfl rfl ?_; simp only [List.getElem_toArray, List.getElem_cons_succ, List.getElem_cons_zero, Act.put, List.setIfInBounds_toArray, List.set_cons_succ, List.set_cons_zero])) | (guard_target =~ wpTree _ _ _ Tr.nil _ _ _; refine tree_nil ?_)))
  go_ret
  exact ⟨rfl, H.below⟩
set_option maxRecDepth 100000 in
set_option maxHeartbeats 8000000 in
theorem ref4Sign_any (n d : Int) (hn : R256 n) (w : World) :
    Calls Try.prog 37 #[rV n d] w fun e' w' => e' = .returned (.int .i64 (signZ n)) ∧ Below w.heap.size w w' := by
  have H := Own.start w
  have hF : ∀ k : Nat, (fun _ : Nat => False) k → k < w.heap.size := fun k h => h.elim
  have on := fun F w hF => refOf_any F w hF n hn
  unfold RetN at on
  rcases Int.lt_trichotomy n 0 with h | h | h
  · rw [show signZ n = -1 by unfold signZ; rw [if_pos h]]
    rw [show decide (n < 0) = true by simpa using h] at on
    go_enter Try.func37, Try.ntmps37
    have tk0 : True := trivial
    have tk1 : True := trivial
    go_wp2_with (first
      | (go_at_call 56; (with_reducible refine (on (FW (fun _ => False) _) _ (H.fw_lt rfl hF)).mono ?_); rintro e w3 ⟨A5, k5, l5, rfl, hb, s5, g5, q5, p5⟩; replace H := H.ext hb; clear hb; obtain ⟨b5, o5, H4, f5⟩ := H.addSl s5; clear H s5; have H := H4; clear H4; dsimp only)
      | (guard_target =~ wpList _ _ _ (_ :: _) _ _; (first | (guard_target =~ wpList _ _ _ (Oper.mk _ (.load _ _) _ _ _ _ :: _) _ _; refine BigFrame.wpList_want rfl (fun K hK => ?_); (first | (refine o_loadNum (n := ?_) (d := ?_) rfl rfl H ?_ ?_ ?_ (hK _ _ ?_); rotate_left 2; (repeat first | exact .head _ | apply List.Mem.tail); (focus (intro _; simp [cells_rV, rL_length, setL_r, setL_rr, agg_rL]; done)); (focus (intro _; simp [cells_rV, rL_length, setL_r, setL_rr, agg_rL]; done))) | (refine o_loadC (v := ?_) (row := ?_) rfl rfl H ?_ ?_ ?_ (hK _ _ ?_); rotate_left 2; (repeat first | exact .head _ | apply List.Mem.tail); (exact rfl); (focus (intro _; simp [cells_rV, rL_length, setL_r, setL_rr, agg_rL]; done)))); clear hK K) | (guard_target =~ wpList _ _ _ (Oper.mk _ (.store _ _ _) _ _ _ _ :: _) _ _; refine BigFrame.wpList_want rfl (fun K hK => ?_); refine o_store (l' := ?_) (row := ?_) rfl rfl H rfl ?_ ?_ ?_ ?_ (fun w3 H2 => hK _ _ ?_); rotate_left 2; (exact r0); (focus (intro _; (simp [Act.eval, Value.cells, List.getD, cells_rV, rL_length, setL_r, setL_rr, agg_rL]; done))); (focus (simp [Act.eval, Value.cells, List.getD, cells_rV, rL_length, setL_r, setL_rr, agg_rL]; done)); (exact rfl); clear hK K; clear H; (try clear w2); revert w3; intro w2 H; (try simp [Act.eval, List.getD, cells_rV, rL_length, setL_r, setL_rr, agg_rL] at H); (try simp [Value.cells, setL, cells_rV, rL_length, setL_r, setL_rr, agg_rL] at H)) | ((first | (guard_target =~ wpList _ _ _ (Oper.mk _ (.alloc _) _ _ _ _ :: _) _ _; refine BigFrame.wpList_want rfl (fun K hK => ?_); refine o_alloc (z := ?_) rfl ?_ H rfl (fun w3 b2 he H2 => hK _ _ ?_); rotate_left 1; (focus (intro _; simp; with_reducible exact rfl))) | (guard_target =~ wpList _ _ _ (Oper.mk _ (.box _ _) _ _ _ _ :: _) _ _; refine BigFrame.wpList_want rfl (fun K hK => ?_); refine o_box rfl H rfl (fun w3 b2 he H2 => hK _ _ ?_))); clear hK K he; clear H; (try clear w2); revert w3; intro w2 H; (try simp [Act.eval, List.getD, cells_rV, rL_length, setL_r, setL_rr, agg_rL] at H); (try simp [Value.cells, setL, cells_rV, rL_length, setL_r, setL_rr, agg_rL] at H); (first | (clear tk0; rename Nat => c1) | (clear tk1; rename Nat => c2)))); simp only [Act.put, List.setIfInBounds_toArray, List.set_cons_succ, List.set_cons_zero, cells_rV, rL_length, setL_r, setL_rr, agg_rL]))
    go_ret
    exact ⟨rfl, H.below⟩
  · subst h
    rw [show signZ 0 = 0 from rfl]
    go_enter Try.func37, Try.ntmps37
    have tk0 : True := trivial
    have tk1 : True := trivial
    go_wp2_with (first
      | (go_at_call 56; (with_reducible refine (on (FW (fun _ => False) _) _ (H.fw_lt rfl hF)).mono ?_); rintro e w3 ⟨A5, k5, l5, rfl, hb, s5, g5, q5, p5⟩; replace H := H.ext hb; clear hb; obtain ⟨b5, o5, H4, f5⟩ := H.addSl s5; clear H s5; have H := H4; clear H4; (obtain ⟨_, t1⟩ := (len_zero g5).resolve_right (fun hh => hh.1 rfl)); dsimp only)
      | (guard_target =~ wpList _ _ _ (_ :: _) _ _; (first | (guard_target =~ wpList _ _ _ (Oper.mk _ (.load _ _) _ _ _ _ :: _) _ _; refine BigFrame.wpList_want rfl (fun K hK => ?_); (first | (refine o_loadNum (n := ?_) (d := ?_) rfl rfl H ?_ ?_ ?_ (hK _ _ ?_); rotate_left 2; (repeat first | exact .head _ | apply List.Mem.tail); (focus (intro _; simp [cells_rV, rL_length, setL_r, setL_rr, agg_rL]; done)); (focus (intro _; simp [cells_rV, rL_length, setL_r, setL_rr, agg_rL]; done))) | (refine o_loadC (v := ?_) (row := ?_) rfl rfl H ?_ ?_ ?_ (hK _ _ ?_); rotate_left 2; (repeat first | exact .head _ | apply List.Mem.tail); (exact rfl); (focus (intro _; simp [cells_rV, rL_length, setL_r, setL_rr, agg_rL]; done)))); clear hK K) | (guard_target =~ wpList _ _ _ (Oper.mk _ (.store _ _ _) _ _ _ _ :: _) _ _; refine BigFrame.wpList_want rfl (fun K hK => ?_); refine o_store (l' := ?_) (row := ?_) rfl rfl H rfl ?_ ?_ ?_ ?_ (fun w3 H2 => hK _ _ ?_); rotate_left 2; (exact r0); (focus (intro _; (simp [Act.eval, Value.cells, List.getD, cells_rV, rL_length, setL_r, setL_rr, agg_rL]; done))); (focus (simp [Act.eval, Value.cells, List.getD, cells_rV, rL_length, setL_r, setL_rr, agg_rL]; done)); (exact rfl); clear hK K; clear H; (try clear w2); revert w3; intro w2 H; (try simp [Act.eval, List.getD, cells_rV, rL_length, setL_r, setL_rr, agg_rL] at H); (try simp [Value.cells, setL, cells_rV, rL_length, setL_r, setL_rr, agg_rL] at H)) | ((first | (guard_target =~ wpList _ _ _ (Oper.mk _ (.alloc _) _ _ _ _ :: _) _ _; refine BigFrame.wpList_want rfl (fun K hK => ?_); refine o_alloc (z := ?_) rfl ?_ H rfl (fun w3 b2 he H2 => hK _ _ ?_); rotate_left 1; (focus (intro _; simp; with_reducible exact rfl))) | (guard_target =~ wpList _ _ _ (Oper.mk _ (.box _ _) _ _ _ _ :: _) _ _; refine BigFrame.wpList_want rfl (fun K hK => ?_); refine o_box rfl H rfl (fun w3 b2 he H2 => hK _ _ ?_))); clear hK K he; clear H; (try clear w2); revert w3; intro w2 H; (try simp [Act.eval, List.getD, cells_rV, rL_length, setL_r, setL_rr, agg_rL] at H); (try simp [Value.cells, setL, cells_rV, rL_length, setL_r, setL_rr, agg_rL] at H); (first | (clear tk0; rename Nat => c1) | (clear tk1; rename Nat => c2)))); simp only [Act.put, List.setIfInBounds_toArray, List.set_cons_succ, List.set_cons_zero, cells_rV, rL_length, setL_r, setL_rr, agg_rL]))
    go_ret
    exact ⟨rfl, H.below⟩
  · have h0 : n ≠ 0 := by omega
    rw [show signZ n = 1 by unfold signZ; rw [if_neg (by omega), if_neg h0]]
    rw [show decide (n < 0) = false by simp; omega] at on
    go_enter Try.func37, Try.ntmps37
    have tk0 : True := trivial
    have tk1 : True := trivial
    go_wp2_with (first
      | (go_at_call 56; (with_reducible refine (on (FW (fun _ => False) _) _ (H.fw_lt rfl hF)).mono ?_); rintro e w3 ⟨A5, k5, l5, rfl, hb, s5, g5, q5, p5⟩; replace H := H.ext hb; clear hb; obtain ⟨b5, o5, H4, f5⟩ := H.addSl s5; clear H s5; have H := H4; clear H4; (obtain ⟨_, t1⟩ := (len_zero g5).resolve_left (fun hh => h0 hh.1)); dsimp only)
      | (guard_target =~ wpList _ _ _ (_ :: _) _ _; (first | (guard_target =~ wpList _ _ _ (Oper.mk _ (.load _ _) _ _ _ _ :: _) _ _; refine BigFrame.wpList_want rfl (fun K hK => ?_); (first | (refine o_loadNum (n := ?_) (d := ?_) rfl rfl H ?_ ?_ ?_ (hK _ _ ?_); rotate_left 2; (repeat first | exact .head _ | apply List.Mem.tail); (focus (intro _; simp [cells_rV, rL_length, setL_r, setL_rr, agg_rL]; done)); (focus (intro _; simp [cells_rV, rL_length, setL_r, setL_rr, agg_rL]; done))) | (refine o_loadC (v := ?_) (row := ?_) rfl rfl H ?_ ?_ ?_ (hK _ _ ?_); rotate_left 2; (repeat first | exact .head _ | apply List.Mem.tail); (exact rfl); (focus (intro _; simp [cells_rV, rL_length, setL_r, setL_rr, agg_rL]; done)))); clear hK K) | (guard_target =~ wpList _ _ _ (Oper.mk _ (.store _ _ _) _ _ _ _ :: _) _ _; refine BigFrame.wpList_want rfl (fun K hK => ?_); refine o_store (l' := ?_) (row := ?_) rfl rfl H rfl ?_ ?_ ?_ ?_ (fun w3 H2 => hK _ _ ?_); rotate_left 2; (exact r0); (focus (intro _; (simp [Act.eval, Value.cells, List.getD, cells_rV, rL_length, setL_r, setL_rr, agg_rL]; done))); (focus (simp [Act.eval, Value.cells, List.getD, cells_rV, rL_length, setL_r, setL_rr, agg_rL]; done)); (exact rfl); clear hK K; clear H; (try clear w2); revert w3; intro w2 H; (try simp [Act.eval, List.getD, cells_rV, rL_length, setL_r, setL_rr, agg_rL] at H); (try simp [Value.cells, setL, cells_rV, rL_length, setL_r, setL_rr, agg_rL] at H)) | ((first | (guard_target =~ wpList _ _ _ (Oper.mk _ (.alloc _) _ _ _ _ :: _) _ _; refine BigFrame.wpList_want rfl (fun K hK => ?_); refine o_alloc (z := ?_) rfl ?_ H rfl (fun w3 b2 he H2 => hK _ _ ?_); rotate_left 1; (focus (intro _; simp; with_reducible exact rfl))) | (guard_target =~ wpList _ _ _ (Oper.mk _ (.box _ _) _ _ _ _ :: _) _ _; refine BigFrame.wpList_want rfl (fun K hK => ?_); refine o_box rfl H rfl (fun w3 b2 he H2 => hK _ _ ?_))); clear hK K he; clear H; (try clear w2); revert w3; intro w2 H; (try simp [Act.eval, List.getD, cells_rV, rL_length, setL_r, setL_rr, agg_rL] at H); (try simp [Value.cells, setL, cells_rV, rL_length, setL_r, setL_rr, agg_rL] at H); (first | (clear tk0; rename Nat => c1) | (clear tk1; rename Nat => c2)))); simp only [Act.put, List.setIfInBounds_toArray, List.set_cons_succ, List.set_cons_zero, cells_rV, rL_length, setL_r, setL_rr, agg_rL]))
    go_ret
    exact ⟨rfl, H.below⟩
end Go.Proofs.Ytmmieilogpmocaa

/-
  The statements of layer 4: a fraction of any two numbers.
-/
namespace Go.Proofs.Ytmmieilogpmocaa
set_option linter.unusedVariables false
set_option linter.unusedSimpArgs false
open Go.RowKit

theorem mkV_rng (n d : Int) : ∃ p q, mkV n d = rV p q ∧ R256 p ∧ R256 q ∧ (mkE n d = 0 → rightB p q = true) := by
  by_cases h : mkE n d = 0
  · have h0 : d ≠ 0 := fun e => by subst e; unfold mkE at h; simp at h
    have hf : R256 (mkN n d) ∧ R256 (mkD n d) := by
      unfold mkE at h
      rw [if_neg h0] at h
      by_cases hh : R256 (gcdZ n d) ∧ R256 (mkN n d) ∧ R256 (mkD n d)
      · exact hh.2
      · rw [if_neg hh] at h; omega
    exact ⟨mkN n d, mkD n d, by unfold mkV; rw [if_pos h], hf.1, hf.2, fun _ => mk_right h0⟩
  · exact ⟨0, 0, by unfold mkV; rw [if_neg h], r256_0, r256_0, fun e => absurd e h⟩
theorem madeV_rng (n d e : Int) : ∃ p q, madeV n d e = rV p q ∧ R256 p ∧ R256 q := by
  unfold madeV
  split
  · obtain ⟨p, q, h1, h2, h3, _⟩ := mkV_rng n d
    exact ⟨p, q, h1, h2, h3⟩
  · exact ⟨0, 0, rfl, r256_0, r256_0⟩
theorem sumV_rng (n d m e z : Int) : ∃ p q, sumV n d m e z = rV p q ∧ R256 p ∧ R256 q := by
  unfold sumV
  split
  · exact madeV_rng _ _ _
  · exact ⟨0, 0, rfl, r256_0, r256_0⟩
theorem mulV_rng (n d m e : Int) : ∃ p q, mulV n d m e = rV p q ∧ R256 p ∧ R256 q := by
  unfold mulV
  split
  · exact madeV_rng _ _ _
  · exact ⟨0, 0, rfl, r256_0, r256_0⟩
theorem divV_rng (n d m e : Int) : ∃ p q, divV n d m e = rV p q ∧ R256 p ∧ R256 q := by
  unfold divV
  split
  · split
    · exact ⟨0, 0, rfl, r256_0, r256_0⟩
    · exact madeV_rng _ _ _
  · exact ⟨0, 0, rfl, r256_0, r256_0⟩
set_option maxRecDepth 200000 in
set_option maxHeartbeats 16000000 in
theorem plain4_any (n d : Int) (w : World) : Calls Try.prog 18 #[rV n d] w fun e w' => e = .returned (rV n d) ∧ Below w.heap.size w w' := by
  have H := Own.start w
  go_enter Try.func18, Try.ntmps18
  have tk0 : True := trivial
  have tk1 : True := trivial
  go_wp2_with (guard_target =~ wpList _ _ _ (_ :: _) _ _; (first | (guard_target =~ wpList _ _ _ (Oper.mk _ (.load _ _) _ _ _ _ :: _) _ _; refine BigFrame.wpList_want rfl (fun K hK => ?_); (first | (refine o_loadNum (n := ?_) (d := ?_) rfl rfl H ?_ ?_ ?_ (hK _ _ ?_); rotate_left 2; (repeat first | exact .head _ | apply List.Mem.tail); (focus (intro _; simp [cells_iV, iL_length, setL_i, setL_ii, agg_iL, cells_rV, rL_length, setL_r, setL_rr, agg_rL]; done)); (focus (intro _; simp [cells_iV, iL_length, setL_i, setL_ii, agg_iL, cells_rV, rL_length, setL_r, setL_rr, agg_rL]; done))) | (refine o_loadDen (n := ?_) (d := ?_) rfl rfl H ?_ ?_ ?_ (hK _ _ ?_); rotate_left 2; (repeat first | exact .head _ | apply List.Mem.tail); (focus (intro _; simp [cells_iV, iL_length, setL_i, setL_ii, agg_iL, cells_rV, rL_length, setL_r, setL_rr, agg_rL]; done)); (focus (intro _; simp [cells_iV, iL_length, setL_i, setL_ii, agg_iL, cells_rV, rL_length, setL_r, setL_rr, agg_rL]; done)))); clear hK K) | (guard_target =~ wpList _ _ _ (Oper.mk _ (.build _ _) _ _ _ _ :: _) _ _; refine BigFrame.wpList_want rfl (fun K hK => ?_); (refine o_build (v := ?_) (ps := ?_) rfl ?_ ?_ (hK _ _ ?_); rotate_left 2; (focus (simp [Act.eval]; with_reducible exact rfl)); (focus (intro w4; with_reducible exact build_q _ _ w4))); clear hK K) | (guard_target =~ wpList _ _ _ (Oper.mk _ (.store _ _ _) _ _ _ _ :: _) _ _; refine BigFrame.wpList_want rfl (fun K hK => ?_); refine o_store (l' := ?_) (row := ?_) rfl rfl H rfl ?_ ?_ ?_ ?_ (fun w3 H2 => hK _ _ ?_); rotate_left 2; (exact r0); (focus (intro _; (simp [Act.eval, List.getD, cells_iV, iL_length, setL_i, setL_ii, agg_iL, cells_rV, rL_length, setL_r, setL_rr, agg_rL]; done))); (focus (simp [Act.eval, List.getD, cells_iV, iL_length, setL_i, setL_ii, agg_iL, cells_rV, rL_length, setL_r, setL_rr, agg_rL]; done)); (exact rfl); clear hK K; clear H; (try clear w2); revert w3; intro w2 H; (try simp [Act.eval, List.getD, cells_iV, iL_length, setL_i, setL_ii, agg_iL, cells_rV, rL_length, setL_r, setL_rr, agg_rL] at H); (try simp [Value.cells, setL, cells_iV, iL_length, setL_i, setL_ii, agg_iL, cells_rV, rL_length, setL_r, setL_rr, agg_rL] at H)) | ((first | (guard_target =~ wpList _ _ _ (Oper.mk _ (.alloc _) _ _ _ _ :: _) _ _; refine BigFrame.wpList_want rfl (fun K hK => ?_); refine o_alloc (z := ?_) rfl ?_ H rfl (fun w3 b2 he H2 => hK _ _ ?_); rotate_left 1; (focus (intro _; simp; with_reducible exact rfl))) | (guard_target =~ wpList _ _ _ (Oper.mk _ (.box _ _) _ _ _ _ :: _) _ _; refine BigFrame.wpList_want rfl (fun K hK => ?_); refine o_box rfl H rfl (fun w3 b2 he H2 => hK _ _ ?_))); clear hK K he; clear H; (try clear w2); revert w3; intro w2 H; (try simp [Act.eval, List.getD, cells_iV, iL_length, setL_i, setL_ii, agg_iL, cells_rV, rL_length, setL_r, setL_rr, agg_rL] at H); (try simp [Value.cells, setL, cells_iV, iL_length, setL_i, setL_ii, agg_iL, cells_rV, rL_length, setL_r, setL_rr, agg_rL] at H); (first | (clear tk0; rename Nat => c1) | (clear tk1; rename Nat => c2)))); simp only [Act.put, List.setIfInBounds_toArray, List.set_cons_succ, List.set_cons_zero, cells_iV, iL_length, setL_i, setL_ii, agg_iL, cells_rV, rL_length, setL_r, setL_rr, agg_rL])
  have hr := H.loadVarN (P := Try.prog) (ty := 31) m0 (by simp) (by simp [rL_length])
  exact bodyPost_ret (v := rV n d) (by simp [results, Try.results18, asAddr, hr, agg_rL]) rfl ⟨rfl, H.below⟩
set_option maxRecDepth 200000 in
set_option maxHeartbeats 16000000 in
theorem law_RatioMakes (n d : Int) (w : World) (hn : R256 n) (hd : R256 d) :
    Calls Try.prog 3 #[iV n, iV d] w fun e' w' => e' = .returned (.bool true) ∧ Below w.heap.size w w' := by
  have H := Own.start w
  have hM := fun w => Make_any n d hn hd w
  have hN := fun w => ref4Make_any n d hn hd w
  obtain ⟨p, q, hv, rp, rq, hr⟩ := mkV_rng n d
  rw [hv] at hM hN
  have hE := eq_r rat2_ref p q p q rp rq rp rq
  rw [show (decide (p = p) && decide (q = q)) = true by simp] at hE
  have g1 : ∀ op x y w (n d m e : Int), (eqGuard op 31 x y (rV n d) (rV m e)).run Try.prog w = .ok () w := fun op x y w n d m e => by
    have h : Try.prog.eqGuardType Try.prog.depth 31 = false := by kernel_rfl
    unfold rV
    cases op <;> simp [eqGuard, h]
  by_cases hu : mkE n d = 0
  · have hR := fun w => Right_any p q rp rq w
    rw [hr hu] at hR
    rw [hu] at hM hN
    clear hv hr hu
    go_enter Try.func3, Try.ntmps3
    have tk0 : True := trivial
    have tk1 : True := trivial
    have tk2 : True := trivial
    have tk3 : True := trivial
    have tk4 : True := trivial
    have tk5 : True := trivial
    have tk6 : True := trivial
    have tk7 : True := trivial
    go_wp2_with (first
      | (guard_target =~ Code.wp _ (Code.region 3 _ true) _ _ _; refine region_treeC0 3 (G := True) (.q 0 (.q 1 (.q 2 (.q 3 (.q 4 (.q 5 (.q 6 (.q 7 (.q 8 (.q 9 (.q 10 (.q 11 (.q 12 (.q 13 (.q 14 (.q 15 (.q 16 (.q 17 (.q 18 (.q 19 (.q 20 .nil))))))))))))))))))))) (by kernel_rfl) (by intro c a d v w h; cases d <;> exact h) (by kernel_rfl) H ⟨trivial⟩ (fun _ w3 H2 => ?_); (clear H; (try clear w2); revert w3; intro w2 H))
      | (go_at_call 15; (with_reducible refine (hM _).mono ?_); rintro e w3 ⟨rfl, hb⟩; replace H := H.ext hb; clear hb; dsimp only; (skip))
      | (go_at_call 16; (with_reducible refine (hN _).mono ?_); rintro e w3 ⟨rfl, hb⟩; replace H := H.ext hb; clear hb; dsimp only; (skip))
      | (guard_target =~ wpList _ _ _ (_ :: _) _ _; (first | (guard_target =~ wpList _ _ _ (Oper.mk _ (.load _ _) _ _ _ _ :: _) _ _; refine BigFrame.wpList_want rfl (fun K hK => ?_); (refine o_loadNC (row := ?_) rfl rfl H ?_ ?_ ?_ (hK _ _ ?_); rotate_left 1; (repeat first | exact .head _ | apply List.Mem.tail); (focus (intro _; simp [cells_iV, iL_length, setL_i, setL_ii, agg_iL, cells_rV, rL_length, setL_r, setL_rr, agg_rL]; done)); (focus (intro _; simp [cells_iV, iL_length, setL_i, setL_ii, agg_iL, cells_rV, rL_length, setL_r, setL_rr, agg_rL]; done))); clear hK K) | (guard_target =~ wpList _ _ _ (Oper.mk _ (.store _ _ _) _ _ _ _ :: _) _ _; refine BigFrame.wpList_want rfl (fun K hK => ?_); refine o_store (l' := ?_) (row := ?_) rfl rfl H rfl ?_ ?_ ?_ ?_ (fun w3 H2 => hK _ _ ?_); rotate_left 2; (exact r0); (focus (intro _; (simp [Act.eval, List.getD, cells_iV, iL_length, setL_i, setL_ii, agg_iL, cells_rV, rL_length, setL_r, setL_rr, agg_rL]; done))); (focus (simp [Act.eval, List.getD, cells_iV, iL_length, setL_i, setL_ii, agg_iL, cells_rV, rL_length, setL_r, setL_rr, agg_rL]; done)); (exact rfl); clear hK K; clear H; (try clear w2); revert w3; intro w2 H; (try simp [Act.eval, List.getD, cells_iV, iL_length, setL_i, setL_ii, agg_iL, cells_rV, rL_length, setL_r, setL_rr, agg_rL] at H); (try simp [Value.cells, setL, cells_iV, iL_length, setL_i, setL_ii, agg_iL, cells_rV, rL_length, setL_r, setL_rr, agg_rL] at H)) | ((first | (guard_target =~ wpList _ _ _ (Oper.mk _ (.alloc _) _ _ _ _ :: _) _ _; refine BigFrame.wpList_want rfl (fun K hK => ?_); refine o_alloc (z := ?_) rfl ?_ H rfl (fun w3 b2 he H2 => hK _ _ ?_); rotate_left 1; (focus (intro _; simp; with_reducible exact rfl))) | (guard_target =~ wpList _ _ _ (Oper.mk _ (.box _ _) _ _ _ _ :: _) _ _; refine BigFrame.wpList_want rfl (fun K hK => ?_); refine o_box rfl H rfl (fun w3 b2 he H2 => hK _ _ ?_))); clear hK K he; clear H; (try clear w2); revert w3; intro w2 H; (try simp [Act.eval, List.getD, cells_iV, iL_length, setL_i, setL_ii, agg_iL, cells_rV, rL_length, setL_r, setL_rr, agg_rL] at H); (try simp [Value.cells, setL, cells_iV, iL_length, setL_i, setL_ii, agg_iL, cells_rV, rL_length, setL_r, setL_rr, agg_rL] at H); (first | (clear tk0; rename Nat => c1) | (clear tk1; rename Nat => c2) | (clear tk2; rename Nat => c3) | (clear tk3; rename Nat => c4)))); simp only [Act.put, List.setIfInBounds_toArray, List.set_cons_succ, List.set_cons_zero, cells_iV, iL_length, setL_i, setL_ii, agg_iL, cells_rV, rL_length, setL_r, setL_rr, agg_rL])
      | (guard_target =~ wpTreeC _ _ _ _ _ _ _; first | (guard_target =~ wpTreeC _ _ _ (Tr.e _ Tr.nil) _ _ _; refine treeC_last (by kernel_rfl) H rfl rfl (fun w3 H2 K hK => ?_); clear H; (try clear w2); (revert w3; intro w2 H); simp only [List.getElem_toArray, List.getElem_cons_succ, List.getElem_cons_zero]; (first | fail); simp only [Act.put, List.setIfInBounds_toArray, List.set_cons_succ, List.set_cons_zero, cells_iV, iL_length, setL_i, setL_ii, agg_iL, cells_rV, rL_length, setL_r, setL_rr, agg_rL]) | (guard_target =~ wpTreeC _ _ _ (Tr.q _ _) _ _ _; first | (refine treeC_quiet ⟨_, H, by repeat first | exact .here | apply Suf.there⟩ rfl rfl rfl (fun K hK => ?_); simp only [List.getElem_toArray, List.getElem_cons_succ, List.getElem_cons_zero]; first | (guard_target =~ Oper.quiet _ (Oper.mk _ (.load _ _) _ _ _ _) _ _ _; (refine q_loadNC (row := ?_) rfl rfl ?_ ?_ ?_ (hK _ ?_); rotate_left 1; (repeat first | exact .head _ | apply List.Mem.tail); (focus (intro _; simp [cells_iV, iL_length, setL_i, setL_ii, agg_iL, cells_rV, rL_length, setL_r, setL_rr, agg_rL]; done)); (focus (intro _; simp [cells_iV, iL_length, setL_i, setL_ii, agg_iL, cells_rV, rL_length, setL_r, setL_rr, agg_rL]; done))); clear hK K; simp only [Act.put, List.setIfInBounds_toArray, List.set_cons_succ, List.set_cons_zero, cells_iV, iL_length, setL_i, setL_ii, agg_iL, cells_rV, rL_length, setL_r, setL_rr, agg_rL]) | (go_big_quiet_op; (try refine ⟨_, fun _ _ => rfl, ?_⟩); refine hK _ ?_; clear hK K)) | (refine treeC_call (v := ?_) ⟨_, H, by repeat first | exact .here | apply Suf.there⟩ rfl rfl (fun w3 H K hK => ?_) ?_; rotate_left 1; (focus (simp only [List.getElem_toArray, List.getElem_cons_succ, List.getElem_cons_zero]; go_big_op; first | (go_at_call 17; (with_reducible refine (awake4_any _).mono ?_); rintro e w3 ⟨rfl, hb⟩; dsimp only; first | exact hK _ hb | exact hK _ (Ext.refl _)) | (go_at_call 18; (with_reducible refine (plain4_any _ _ _).mono ?_); rintro e w3 ⟨rfl, hb⟩; dsimp only; first | exact hK _ hb | exact hK _ (Ext.refl _)) | (go_at_call 15; (with_reducible refine (hM _).mono ?_); rintro e w3 ⟨rfl, hb⟩; dsimp only; first | exact hK _ hb | exact hK _ (Ext.refl _)) | (go_at_call 16; (with_reducible refine (hN _).mono ?_); rintro e w3 ⟨rfl, hb⟩; dsimp only; first | exact hK _ hb | exact hK _ (Ext.refl _)) | (go_at_call 19; (with_reducible refine (hR _).mono ?_); rintro e w3 ⟨rfl, hb⟩; dsimp only; first | exact hK _ hb | exact hK _ (Ext.refl _)))); simp only [List.getElem_toArray, List.getElem_cons_succ, List.getElem_cons_zero, Act.put, List.setIfInBounds_toArray, List.set_cons_succ, List.set_cons_zero]) | (refine treeC_skip ⟨_, H, by repeat first | exact .here | apply Suf.there⟩ rfl rfl ?_; simp only [List.getElem_toArray, List.getElem_cons_succ, List.getElem_cons_zero, Act.put, List.setIfInBounds_toArray, List.set_cons_succ, List.set_cons_zero])) | (guard_target =~ wpTreeC _ _ _ (Tr.both _ _) _ _ _; refine treeC_both ?_ ?_) | (guard_target =~ wpTreeC _ _ _ (Tr.e _ _) _ _ _; first | (refine treeC_one H rfl rfl (fun w3 H2 K hK => ?_); clear H; (try clear w2); (revert w3; intro w2 H); simp only [List.getElem_toArray, List.getElem_cons_succ, List.getElem_cons_zero]; first | ((first | fail); simp only [Act.put, List.setIfInBounds_toArray, List.set_cons_succ, List.set_cons_zero, cells_iV, iL_length, setL_i, setL_ii, agg_iL, cells_rV, rL_length, setL_r, setL_rr, agg_rL]) | (go_big_op; (first | fail))) | (refine treeC_one_skip (fun w3 hx => ⟨_, H.ext hx, by repeat first | exact .here | apply Suf.there⟩) rfl rfl (fun w3 hx => ?_); replace H := H.ext hx; clear hx; (try clear w2); revert w3; intro w2 H; simp only [List.getElem_toArray, List.getElem_cons_succ, List.getElem_cons_zero, Act.put, List.setIfInBounds_toArray, List.set_cons_succ, List.set_cons_zero])) | (guard_target =~ wpTreeC _ _ _ Tr.nil _ _ _; refine treeC_nil H (fun w3 H2 => ?_); clear H; (try clear w2); revert w3; intro w2 H)))
    go_ret
    exact ⟨rfl, H.below⟩
  · have u0 : (mkE n d != 0) = true := by simpa using hu
    generalize mkE n d = u at *
    clear hv hr hu
    go_enter Try.func3, Try.ntmps3
    have tk0 : True := trivial
    have tk1 : True := trivial
    have tk2 : True := trivial
    have tk3 : True := trivial
    have tk4 : True := trivial
    have tk5 : True := trivial
    have tk6 : True := trivial
    have tk7 : True := trivial
    go_wp2_with (first
      | (guard_target =~ Code.wp _ (Code.region 3 _ true) _ _ _; refine region_treeC0 3 (G := True) (.q 0 (.q 1 (.q 2 (.q 3 (.q 4 (.q 5 (.q 6 (.q 7 (.q 8 (.q 9 (.q 10 (.q 11 (.q 12 (.q 13 (.q 14 (.q 15 (.q 16 (.q 17 (.q 18 (.q 19 (.q 20 .nil))))))))))))))))))))) (by kernel_rfl) (by intro c a d v w h; cases d <;> exact h) (by kernel_rfl) H ⟨trivial⟩ (fun _ w3 H2 => ?_); (clear H; (try clear w2); revert w3; intro w2 H))
      | (go_at_call 15; (with_reducible refine (hM _).mono ?_); rintro e w3 ⟨rfl, hb⟩; replace H := H.ext hb; clear hb; dsimp only; (skip))
      | (go_at_call 16; (with_reducible refine (hN _).mono ?_); rintro e w3 ⟨rfl, hb⟩; replace H := H.ext hb; clear hb; dsimp only; (skip))
      | (guard_target =~ wpList _ _ _ (_ :: _) _ _; (first | (guard_target =~ wpList _ _ _ (Oper.mk _ (.load _ _) _ _ _ _ :: _) _ _; refine BigFrame.wpList_want rfl (fun K hK => ?_); (refine o_loadNC (row := ?_) rfl rfl H ?_ ?_ ?_ (hK _ _ ?_); rotate_left 1; (repeat first | exact .head _ | apply List.Mem.tail); (focus (intro _; simp [cells_iV, iL_length, setL_i, setL_ii, agg_iL, cells_rV, rL_length, setL_r, setL_rr, agg_rL]; done)); (focus (intro _; simp [cells_iV, iL_length, setL_i, setL_ii, agg_iL, cells_rV, rL_length, setL_r, setL_rr, agg_rL]; done))); clear hK K) | (guard_target =~ wpList _ _ _ (Oper.mk _ (.store _ _ _) _ _ _ _ :: _) _ _; refine BigFrame.wpList_want rfl (fun K hK => ?_); refine o_store (l' := ?_) (row := ?_) rfl rfl H rfl ?_ ?_ ?_ ?_ (fun w3 H2 => hK _ _ ?_); rotate_left 2; (exact r0); (focus (intro _; (simp [Act.eval, List.getD, cells_iV, iL_length, setL_i, setL_ii, agg_iL, cells_rV, rL_length, setL_r, setL_rr, agg_rL]; done))); (focus (simp [Act.eval, List.getD, cells_iV, iL_length, setL_i, setL_ii, agg_iL, cells_rV, rL_length, setL_r, setL_rr, agg_rL]; done)); (exact rfl); clear hK K; clear H; (try clear w2); revert w3; intro w2 H; (try simp [Act.eval, List.getD, cells_iV, iL_length, setL_i, setL_ii, agg_iL, cells_rV, rL_length, setL_r, setL_rr, agg_rL] at H); (try simp [Value.cells, setL, cells_iV, iL_length, setL_i, setL_ii, agg_iL, cells_rV, rL_length, setL_r, setL_rr, agg_rL] at H)) | ((first | (guard_target =~ wpList _ _ _ (Oper.mk _ (.alloc _) _ _ _ _ :: _) _ _; refine BigFrame.wpList_want rfl (fun K hK => ?_); refine o_alloc (z := ?_) rfl ?_ H rfl (fun w3 b2 he H2 => hK _ _ ?_); rotate_left 1; (focus (intro _; simp; with_reducible exact rfl))) | (guard_target =~ wpList _ _ _ (Oper.mk _ (.box _ _) _ _ _ _ :: _) _ _; refine BigFrame.wpList_want rfl (fun K hK => ?_); refine o_box rfl H rfl (fun w3 b2 he H2 => hK _ _ ?_))); clear hK K he; clear H; (try clear w2); revert w3; intro w2 H; (try simp [Act.eval, List.getD, cells_iV, iL_length, setL_i, setL_ii, agg_iL, cells_rV, rL_length, setL_r, setL_rr, agg_rL] at H); (try simp [Value.cells, setL, cells_iV, iL_length, setL_i, setL_ii, agg_iL, cells_rV, rL_length, setL_r, setL_rr, agg_rL] at H); (first | (clear tk0; rename Nat => c1) | (clear tk1; rename Nat => c2) | (clear tk2; rename Nat => c3) | (clear tk3; rename Nat => c4)))); simp only [Act.put, List.setIfInBounds_toArray, List.set_cons_succ, List.set_cons_zero, cells_iV, iL_length, setL_i, setL_ii, agg_iL, cells_rV, rL_length, setL_r, setL_rr, agg_rL])
      | (guard_target =~ wpTreeC _ _ _ _ _ _ _; first | (guard_target =~ wpTreeC _ _ _ (Tr.e _ Tr.nil) _ _ _; refine treeC_last (by kernel_rfl) H rfl rfl (fun w3 H2 K hK => ?_); clear H; (try clear w2); (revert w3; intro w2 H); simp only [List.getElem_toArray, List.getElem_cons_succ, List.getElem_cons_zero]; (first | fail); simp only [Act.put, List.setIfInBounds_toArray, List.set_cons_succ, List.set_cons_zero, cells_iV, iL_length, setL_i, setL_ii, agg_iL, cells_rV, rL_length, setL_r, setL_rr, agg_rL]) | (guard_target =~ wpTreeC _ _ _ (Tr.q _ _) _ _ _; first | (refine treeC_quiet ⟨_, H, by repeat first | exact .here | apply Suf.there⟩ rfl rfl rfl (fun K hK => ?_); simp only [List.getElem_toArray, List.getElem_cons_succ, List.getElem_cons_zero]; first | (guard_target =~ Oper.quiet _ (Oper.mk _ (.load _ _) _ _ _ _) _ _ _; (refine q_loadNC (row := ?_) rfl rfl ?_ ?_ ?_ (hK _ ?_); rotate_left 1; (repeat first | exact .head _ | apply List.Mem.tail); (focus (intro _; simp [cells_iV, iL_length, setL_i, setL_ii, agg_iL, cells_rV, rL_length, setL_r, setL_rr, agg_rL]; done)); (focus (intro _; simp [cells_iV, iL_length, setL_i, setL_ii, agg_iL, cells_rV, rL_length, setL_r, setL_rr, agg_rL]; done))); clear hK K; simp only [Act.put, List.setIfInBounds_toArray, List.set_cons_succ, List.set_cons_zero, cells_iV, iL_length, setL_i, setL_ii, agg_iL, cells_rV, rL_length, setL_r, setL_rr, agg_rL]) | (go_big_quiet_op; (try refine ⟨_, fun _ _ => rfl, ?_⟩); refine hK _ ?_; clear hK K)) | (refine treeC_call (v := ?_) ⟨_, H, by repeat first | exact .here | apply Suf.there⟩ rfl rfl (fun w3 H K hK => ?_) ?_; rotate_left 1; (focus (simp only [List.getElem_toArray, List.getElem_cons_succ, List.getElem_cons_zero]; go_big_op; first | (go_at_call 17; (with_reducible refine (awake4_any _).mono ?_); rintro e w3 ⟨rfl, hb⟩; dsimp only; first | exact hK _ hb | exact hK _ (Ext.refl _)) | (go_at_call 18; (with_reducible refine (plain4_any _ _ _).mono ?_); rintro e w3 ⟨rfl, hb⟩; dsimp only; first | exact hK _ hb | exact hK _ (Ext.refl _)) | (go_at_call 15; (with_reducible refine (hM _).mono ?_); rintro e w3 ⟨rfl, hb⟩; dsimp only; first | exact hK _ hb | exact hK _ (Ext.refl _)) | (go_at_call 16; (with_reducible refine (hN _).mono ?_); rintro e w3 ⟨rfl, hb⟩; dsimp only; first | exact hK _ hb | exact hK _ (Ext.refl _)))); simp only [List.getElem_toArray, List.getElem_cons_succ, List.getElem_cons_zero, Act.put, List.setIfInBounds_toArray, List.set_cons_succ, List.set_cons_zero]) | (refine treeC_skip ⟨_, H, by repeat first | exact .here | apply Suf.there⟩ rfl rfl ?_; simp only [List.getElem_toArray, List.getElem_cons_succ, List.getElem_cons_zero, Act.put, List.setIfInBounds_toArray, List.set_cons_succ, List.set_cons_zero])) | (guard_target =~ wpTreeC _ _ _ (Tr.both _ _) _ _ _; refine treeC_both ?_ ?_) | (guard_target =~ wpTreeC _ _ _ (Tr.e _ _) _ _ _; first | (refine treeC_one H rfl rfl (fun w3 H2 K hK => ?_); clear H; (try clear w2); (revert w3; intro w2 H); simp only [List.getElem_toArray, List.getElem_cons_succ, List.getElem_cons_zero]; first | ((first | fail); simp only [Act.put, List.setIfInBounds_toArray, List.set_cons_succ, List.set_cons_zero, cells_iV, iL_length, setL_i, setL_ii, agg_iL, cells_rV, rL_length, setL_r, setL_rr, agg_rL]) | (go_big_op; (first | fail))) | (refine treeC_one_skip (fun w3 hx => ⟨_, H.ext hx, by repeat first | exact .here | apply Suf.there⟩) rfl rfl (fun w3 hx => ?_); replace H := H.ext hx; clear hx; (try clear w2); revert w3; intro w2 H; simp only [List.getElem_toArray, List.getElem_cons_succ, List.getElem_cons_zero, Act.put, List.setIfInBounds_toArray, List.set_cons_succ, List.set_cons_zero])) | (guard_target =~ wpTreeC _ _ _ Tr.nil _ _ _; refine treeC_nil H (fun w3 H2 => ?_); clear H; (try clear w2); revert w3; intro w2 H)))
    go_ret
    exact ⟨rfl, H.below⟩
end Go.Proofs.Ytmmieilogpmocaa

/-
  An argument that is an array of four integers. Nothing of the program stands here.
-/
namespace Go.Proofs.Ytmmieilogpmocaa
set_option linter.unusedVariables false
open Go.RowKit Go.WideShapes Go.ChangeShapes
section
variable {H : Type} {enc : TypeId × Value → H} {P : Program} {w : World} {base : Nat} {spare : Nat → Bool} {held : Bool}
theorem open_arr4 {r : Reach} {b0 : Nat} {t e : TypeId} {q : IntKind} {v : Value} {d : DataW H} {p : List MemPlace} (hu : P.underlying t = some (.array 4 e)) (he : P.underlying e = some (.int q)) (hc : P.cellsOf e = 1) (hC : P.cellsOf t = 4)
    (hv : Value.okWide P w r b0 t v) (h : DataW.Trod enc P w base spare held t v d p) :
    ∃ a b c x : Int, v = .agg #[.int q a, .int q b, .int q c, .int q x] ∧ (Lit.int q a).wf = true ∧ (Lit.int q b).wf = true ∧ (Lit.int q c).wf = true ∧ (Lit.int q x).wf = true := by
  simp only [Value.okWide, hu] at hv
  obtain ⟨cs, rfl, hsz, _⟩ := hv
  rw [hC] at hsz
  obtain ⟨c0, c1, c2, c3, rfl⟩ : ∃ c0 c1 c2 c3, cs = #[c0, c1, c2, c3] := by
    obtain ⟨l⟩ := cs
    match l, hsz with
    | [c0, c1, c2, c3], _ => exact ⟨c0, c1, c2, c3, rfl⟩
  obtain ⟨fuel, hf⟩ := h
  cases fuel with
  | zero => simp [DataW.trod] at hf
  | succ m =>
    rw [DataW.trod_step] at hf
    unfold DataW.trodStep at hf
    simp only [hu, Value.cells] at hf
    rw [if_pos (by rw [hC]; rfl), hc] at hf
    simp only [Option.map_eq_some_iff] at hf
    obtain ⟨ys, hy, _⟩ := hf
    have hr : List.range 4 = [0, 1, 2, 3] := rfl
    rw [hr] at hy
    simp only [List.mapM_cons, bind, Option.bind_eq_some_iff] at hy
    obtain ⟨y0, h0, _, ⟨y1, h1, _, ⟨y2, h2, _, ⟨y3, h3, _⟩, _⟩, _⟩, _⟩ := hy
    obtain ⟨a, ea, _, wa⟩ := DataW.trod_int he h0
    obtain ⟨b, eb, _, wb⟩ := DataW.trod_int he h1
    obtain ⟨c, ec, _, wc⟩ := DataW.trod_int he h2
    obtain ⟨x, ex, _, wx⟩ := DataW.trod_int he h3
    simp at ea eb ec ex
    subst ea eb ec ex
    exact ⟨a, b, c, x, rfl, wa, wb, wc, wx⟩
end
end Go.Proofs.Ytmmieilogpmocaa

/-
  The statement RatioMakes, proved: for every input the law answers true, and each argument reads behind the call as it did. No condition.
-/
namespace Go.Proofs.Ytmmieilogpmocaa
namespace ratioMakes
open Go.ChangeShapes Go.WideShapes Go.ChangeAt Go.RowKit
open Go.ChangeMaps (open_string)
set_option maxRecDepth 100000 in
theorem lifted (os : Os) (started : os.Started) (H : Type) (enc : TypeId × Value → H) :
    ReturnsInHanded {} Try.checked os 3 .any (Rows.ratioMakesSpec.pre6 enc Try.prog Try.f3 Rows.ratioMakesRow.domain false) (Rows.ratioMakesSpec.post enc Try.prog Try.f3 false true false false) := by
  refine returnsInHanded_of_change (C := Try.checked) Try.own0 started (by kernel_rfl) Try.func3
    (ChangeSpec.witness6 (enc := enc) (C := Try.checked) false ⟨#[], #[.agg #[.int .u64 0, .int .u64 0, .int .u64 0, .int .u64 0], .agg #[.int .u64 0, .int .u64 0, .int .u64 0, .int .u64 0]], []⟩ 8 (by kernel_rfl) (by kernel_rfl) (by kernel_rfl) (by kernel_rfl)) ?_
  intro W base args ds gs before hval0 hW _ _
  have hval : ∀ (j : Nat) t v, Try.f3.params[j]? = some t → args[j]? = some v → Value.okWide Try.prog W .any base t v := hval0
  refine law_calls Try.laidOut (by kernel_rfl) rfl rfl Try.underlying4 (fun ds h => by match ds, h with | [_, _], _ => rfl) hW ?_
  obtain ⟨p, q, hA0, _, _, _, _⟩ := hW
  have hA : DataW.TrodAll enc Try.prog W 0 (fun _ => true) true Try.f3.params.toList args.toList ds p := hA0
  rw [Try.params3] at hA hval
  obtain ⟨v0, vs0, d0, ds0, p0, q0, hargs, rfl, rfl, h0, r0⟩ := trodAll_cons hA
  obtain ⟨v1, vs1, d1, ds1, p1, q1, rfl, rfl, rfl, h1, r1⟩ := trodAll_cons r0
  obtain ⟨rfl, rfl, rfl⟩ := trodAll_nil r1
  obtain rfl : args = #[v0, v1] := by cases args; simp_all
  obtain ⟨a0, b0, c0, x0, rfl, wa0, wb0, wc0, wx0⟩ := open_arr4 Try.underlying24 Try.underlying22 (by kernel_rfl) (by kernel_rfl) (hval 0 24 v0 rfl rfl) h0
  have ha0 := bounds_u64 wa0; have hb0 := bounds_u64 wb0; have hc0 := bounds_u64 wc0; have hx0 := bounds_u64 wx0
  have W0 : Wd a0 ∧ Wd b0 ∧ Wd c0 ∧ Wd x0 := ⟨⟨ha0.1, ha0.2⟩, ⟨hb0.1, hb0.2⟩, ⟨hc0.1, hc0.2⟩, ⟨hx0.1, hx0.2⟩⟩
  rw [← iV_sv W0.1 W0.2.1 W0.2.2.1 W0.2.2.2]
  obtain ⟨a1, b1, c1, x1, rfl, wa1, wb1, wc1, wx1⟩ := open_arr4 Try.underlying24 Try.underlying22 (by kernel_rfl) (by kernel_rfl) (hval 1 24 v1 rfl rfl) h1
  have ha1 := bounds_u64 wa1; have hb1 := bounds_u64 wb1; have hc1 := bounds_u64 wc1; have hx1 := bounds_u64 wx1
  have W1 : Wd a1 ∧ Wd b1 ∧ Wd c1 ∧ Wd x1 := ⟨⟨ha1.1, ha1.2⟩, ⟨hb1.1, hb1.2⟩, ⟨hc1.1, hc1.2⟩, ⟨hx1.1, hx1.2⟩⟩
  rw [← iV_sv W1.1 W1.2.1 W1.2.2.1 W1.2.2.2]
  exact law_RatioMakes (sv a0 b0 c0 x0) (sv a1 b1 c1 x1) W (sv_range W0.1 W0.2.1 W0.2.2.1 W0.2.2.2) (sv_range W1.1 W1.2.1 W1.2.2.1 W1.2.2.2)
set_option maxRecDepth 100000 in
theorem closed : joinedFacts Try.pinned.checked.prog 3 Try.f3 Rows.ratioMakesSpec Rows.ratioMakesRow = true := by
  have key : ∀ P : Program, P = Try.pinned.checked.prog → joinedFacts P 3 Try.f3 Rows.ratioMakesSpec Rows.ratioMakesRow = true := by
    intro P hP
    unfold joinedFacts
    simp only [Bool.and_eq_true]
    repeat' apply And.intro
    all_goals first
      | (guard_target =~ Program.mayEnter _ = true; rw [hP]; exact may_enter)
      | (guard_target =~ (_ == Program.liftsFinal _) = true; rw [hP, lifts_final]; rfl)
      | (guard_target =~ (Program.make _ == _) = true; rw [hP, make_cut]; rfl)
      | (rw [hP]; as_aux_lemma => kernel_rfl)
      | (as_aux_lemma => kernel_rfl)
  exact key _ rfl
theorem over : Rows.ratioMakesRow.holds Try.pinned (OpenSpec.ofChange Rows.ratioMakesSpec) :=
  OpenClaim.holds_of_wide 3 Try.f3 rfl rfl rfl rfl rfl rfl rfl ⟨rfl, rfl, rfl, rfl, rfl⟩ rfl rfl rfl rfl rfl (by kernel_rfl) Try.func3 closed
    (of_decide_eq_true (by kernel_rfl)) (by unfold Func.isWrapper; first | (rw [if_pos (by decide +kernel)]; kernel_rfl) | (rw [if_neg (by decide +kernel)]; exact ⟨rfl, rfl⟩))
    (fun os started H enc _ => lifted os started H enc)
theorem proved : Rows.RatioMakesSaid :=
  over
end ratioMakes
end Go.Proofs.Ytmmieilogpmocaa
