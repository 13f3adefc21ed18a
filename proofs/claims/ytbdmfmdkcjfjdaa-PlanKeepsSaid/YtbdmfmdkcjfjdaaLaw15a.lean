/-
  The walks of the statements' small functions: few, plain, awake.
-/
import Derived.Test.YtbdmfmdkcjfjdaaPlan8
namespace Go.Proofs.Ytbdmfmdkcjfjdaa
set_option linter.unusedVariables false
set_option linter.unusedSimpArgs false
open Go.RowKit

set_option maxRecDepth 100000 in
theorem few_any (A A2 : Option Addr) (n m c c2 : Nat) (w : World) :
    Calls Try.prog 13 #[plV A A2 n m c c2] w fun e w' => e = .returned (.bool (decide (n ≤ 60) && decide (m ≤ 60))) ∧ Below w.heap.size w w' := by
  have H := Own.start w
  obtain ⟨v, hv⟩ : ∃ v, (decide (n ≤ 60) && decide (m ≤ 60)) = v := ⟨_, rfl⟩
  have HV := Lib.hid hv
  rw [hv]; clear hv
  go_enter Try.func13, Try.ntmps13
  have tk0 : True := trivial
  go_wp2_with (first
    | go_big_skip
    | (guard_target =~ wpList _ _ _ (_ :: _) _ _; (first | (guard_target =~ wpList _ _ _ (Oper.mk _ (.load _ _) _ _ _ _ :: _) _ _; refine BigFrame.wpList_want rfl (fun K hK => ?_); (refine o_loadC (v := ?_) (row := ?_) rfl rfl H ?_ ?_ ?_ (hK _ _ ?_); rotate_left 2; (repeat first | exact .head _ | apply List.Mem.tail); (exact rfl); (focus (intro _; simp; done))); clear hK K) | ((guard_target =~ wpList _ _ _ (Oper.mk _ (.box _ _) _ _ _ _ :: _) _ _; refine BigFrame.wpList_want rfl (fun K hK => ?_); refine o_box rfl H rfl (fun w3 b2 he H2 => hK _ _ ?_)); clear hK K he; clear H; (try clear w2); revert w3; intro w2 H; simp [Act.eval, Value.cells, setL, List.getD] at H; (clear tk0; rename Nat => b1))); simp only [Act.put, List.setIfInBounds_toArray, List.set_cons_succ, List.set_cons_zero]))
  all_goals
    go_ret
    exact ⟨ret_b (by rw [← HV.out, Bool.eq_iff_iff]; simp only [Bool.and_eq_true, decide_eq_true_eq, Bool.false_eq_true, false_iff]; omega), H.below⟩
set_option maxRecDepth 100000 in
theorem plain_any (A A2 : Option Addr) (n m c c2 : Nat) (w : World) :
    Calls Try.prog 16 #[plV A A2 n m c c2] w fun e w' => e = .returned (plV A A2 n m c c2) ∧ Below w.heap.size w w' := by
  have H := Own.start w
  go_enter Try.func16, Try.ntmps16
  have tk0 : True := trivial
  have tk1 : True := trivial
  go_wp2_with (guard_target =~ wpList _ _ _ (_ :: _) _ _; (first | (guard_target =~ wpList _ _ _ (Oper.mk _ (.load _ _) _ _ _ _ :: _) _ _; refine BigFrame.wpList_want rfl (fun K hK => ?_); (refine o_loadC (v := ?_) (row := ?_) rfl rfl H ?_ ?_ ?_ (hK _ _ ?_); rotate_left 2; (repeat first | exact .head _ | apply List.Mem.tail); (exact rfl); (focus (intro _; simp; done))); clear hK K) | (guard_target =~ wpList _ _ _ (Oper.mk _ (.store _ _ _) _ _ _ _ :: _) _ _; refine BigFrame.wpList_want rfl (fun K hK => ?_); refine o_store (l' := ?_) (row := ?_) rfl rfl H rfl ?_ ?_ ?_ ?_ (fun w3 H2 => hK _ _ ?_); rotate_left 2; (exact r0); (focus (intro _; simp [Act.eval, Value.cells]; done)); (focus (simp [Act.eval, Value.cells]; done)); (exact rfl); clear hK K; clear H; (try clear w2); revert w3; intro w2 H; simp [Act.eval, Value.cells, setL, List.getD] at H) | ((first | (guard_target =~ wpList _ _ _ (Oper.mk _ (.alloc _) _ _ _ _ :: _) _ _; refine BigFrame.wpList_want rfl (fun K hK => ?_); refine o_alloc (z := ?_) rfl ?_ H rfl (fun w3 b2 he H2 => hK _ _ ?_); rotate_left 1; (focus (intro _; simp; with_reducible exact rfl))) | (guard_target =~ wpList _ _ _ (Oper.mk _ (.box _ _) _ _ _ _ :: _) _ _; refine BigFrame.wpList_want rfl (fun K hK => ?_); refine o_box rfl H rfl (fun w3 b2 he H2 => hK _ _ ?_))); clear hK K he; clear H; (try clear w2); revert w3; intro w2 H; simp [Act.eval, Value.cells, setL, List.getD] at H; (first | (clear tk0; rename Nat => b1) | (clear tk1; rename Nat => b2)))); simp only [Act.put, List.setIfInBounds_toArray, List.set_cons_succ, List.set_cons_zero])
  have hr := H.loadVarN (P := Try.prog) (ty := 29) m0 (by kernel_rfl) (by kernel_rfl)
  exact bodyPost_ret (v := plV A A2 n m c c2) (by simp [results, Try.results16, asAddr, hr]) rfl ⟨rfl, H.below⟩
def vs15 : List Vt := [⟨1, ⟨0, 0⟩⟩, ⟨2, ⟨4, 0⟩⟩, ⟨3, ⟨2, 0⟩⟩]
theorem vR15 : vR vs15 = [.int .i64 1, .int .i64 0, .int .i64 0, .int .i64 2, .int .i64 4, .int .i64 0, .int .i64 3, .int .i64 2, .int .i64 0] := rfl
theorem aw15_r : rightB vs15 [] = true := by decide +kernel
theorem aw15_a : canLinkZ vs15 [] 1 2 = 14 := by decide +kernel
theorem aw15_b : canLinkZ vs15 [] 1 3 = 0 := by decide +kernel
set_option maxRecDepth 100000 in
set_option maxHeartbeats 4000000 in
theorem awake15_any (w : World) :
    Calls Try.prog 14 #[] w fun e w' => e = .returned (.bool true) ∧ Below w.heap.size w w' := by
  have H := Own.start w
  have hpl : ∀ (w : World) b, Sl (fun _ => False) w (some ⟨b, 0, none⟩) (vR vs15) → Pl (fun _ => False) w (some ⟨b, 0, none⟩) none 3 0 3 0 vs15 [] := fun w b h => ⟨rfl, rfl, h, Sl.nil_ _ _ _, by omega, by omega, by omega, by unfold maxLen; omega⟩
  have h1 := fun w b h => right_any vs15 [] (some ⟨b, 0, none⟩) none 3 0 3 0 (fun _ => False) w rfl rfl h (Sl.nil_ _ _ _) (by omega) (by omega) (by omega) (by unfold maxLen; omega)
  have h2 := fun w b h => canLink_any vs15 [] (some ⟨b, 0, none⟩) none 3 0 3 0 (fun _ => False) 1 2 w (hpl w b h)
  have h3 := fun w b h => canLink_any vs15 [] (some ⟨b, 0, none⟩) none 3 0 3 0 (fun _ => False) 1 3 w (hpl w b h)
  simp only [aw15_r] at h1
  simp only [aw15_a] at h2
  simp only [aw15_b] at h3
  clear hpl
  rw [vR15] at h1 h2 h3
  go_enter Try.func14, Try.ntmps14
  have tk0 : True := trivial
  have tk1 : True := trivial
  go_wp2_with (first
    | (go_at_call 15; (with_reducible refine (h1 _ _ (H.giveCells m1 (fun _ h => h.elim) 0 rfl)).mono ?_); rintro e w3 ⟨rfl, hb⟩; replace H := H.ext hb; clear hb; dsimp only)
    | (go_at_call 18; (with_reducible refine (h2 _ _ (H.giveCells m1 (fun _ h => h.elim) 0 rfl)).mono ?_); rintro e w3 ⟨rfl, hb⟩; replace H := H.ext hb; clear hb; dsimp only)
    | (go_at_call 18; (with_reducible refine (h3 _ _ (H.giveCells m1 (fun _ h => h.elim) 0 rfl)).mono ?_); rintro e w3 ⟨rfl, hb⟩; replace H := H.ext hb; clear hb; dsimp only)
    | (guard_target =~ wpList _ _ _ (_ :: _) _ _; (first | (guard_target =~ wpList _ _ _ (Oper.mk _ (.load _ _) _ _ _ _ :: _) _ _; refine BigFrame.wpList_want rfl (fun K hK => ?_); (refine o_loadNC (row := ?_) rfl rfl H ?_ ?_ ?_ (hK _ _ ?_); rotate_left 1; (repeat first | exact .head _ | apply List.Mem.tail); (focus (intro _; simp; done)); (focus (intro _; simp; done))); clear hK K) | (guard_target =~ wpList _ _ _ (Oper.mk _ (.store _ _ _) _ _ _ _ :: _) _ _; refine BigFrame.wpList_want rfl (fun K hK => ?_); refine o_store (l' := ?_) (row := ?_) rfl rfl H rfl ?_ ?_ ?_ ?_ (fun w3 H2 => hK _ _ ?_); rotate_left 2; (exact r0); (focus (intro _; simp [Act.eval, Value.cells]; done)); (focus (simp [Act.eval, Value.cells]; done)); (exact rfl); clear hK K; clear H; (try clear w2); revert w3; intro w2 H; simp [Act.eval, Value.cells, setL, List.getD] at H) | ((first | (guard_target =~ wpList _ _ _ (Oper.mk _ (.alloc _) _ _ _ _ :: _) _ _; refine BigFrame.wpList_want rfl (fun K hK => ?_); refine o_alloc (z := ?_) rfl ?_ H rfl (fun w3 b2 he H2 => hK _ _ ?_); rotate_left 1; (focus (intro _; simp; with_reducible exact rfl))) | (guard_target =~ wpList _ _ _ (Oper.mk _ (.buildSlice _ _ _) _ _ _ _ :: _) _ _; refine BigFrame.wpList_want rfl (fun K hK => ?_); refine o_buildSlice (C := ?_) (E := ?_) rfl rfl H ?_ rfl (fun w3 b2 he H2 => hK _ _ ?_); rotate_left 2; (focus (intro _; simp [go_sem, Instr.buildSlice]; with_reducible exact rfl)))); clear hK K he; clear H; (try clear w2); revert w3; intro w2 H; simp [Act.eval, Value.cells, setL, List.getD] at H; (first | (clear tk0; rename Nat => b1) | (clear tk1; rename Nat => b2)))); simp only [Act.put, List.setIfInBounds_toArray, List.set_cons_succ, List.set_cons_zero]))
  go_ret
  exact ⟨rfl, H.below⟩
end Go.Proofs.Ytbdmfmdkcjfjdaa
