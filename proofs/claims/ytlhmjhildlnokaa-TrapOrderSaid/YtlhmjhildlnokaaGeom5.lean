/-
  The walks of layer 5: turns of any points, directions, the program's and the document's.
-/
import Derived.Test.YtlhmjhildlnokaaGeom3
import Derived.Test.YtlhmjhildlnokaaGeomR
import Derived.Test.YtlhmjhildlnokaaGeo3
import Derived.Test.YtlhmjhildlnokaaRegC
namespace Go.Proofs.Ytlhmjhildlnokaa
set_option linter.unusedVariables false
set_option linter.unusedSimpArgs false
open Go.RowKit

def turnB (a b c : Pt) : Int := if (inB a && (inB b && inB c)) = true then turnZ a b c else 0
set_option maxRecDepth 100000 in
set_option maxHeartbeats 4000000 in
theorem geomTurn_any (ax ay bx b_y cx cy : Int) (w : World) :
    Calls Try.prog 70 #[pV ax ay, pV bx b_y, pV cx cy] w fun e w' => e = .returned (.int .i64 (turnB ⟨ax, ay⟩ ⟨bx, b_y⟩ ⟨cx, cy⟩)) ∧ Below w.heap.size w w' := by
  have H := Own.start w
  have hall := all3 ax ay bx b_y cx cy
  unfold turnB
  by_cases hin : (inB ⟨ax, ay⟩ && (inB ⟨bx, b_y⟩ && inB ⟨cx, cy⟩)) = true
  · have hin' := hin
    simp only [Bool.and_eq_true] at hin'
    have ht := turn_any ax ay bx b_y cx cy (in_of hin'.1) (in_of hin'.2.1) (in_of hin'.2.2)
    rw [if_pos hin]
    rw [hin] at hall
    clear hin hin'
    generalize turnZ ⟨ax, ay⟩ ⟨bx, b_y⟩ ⟨cx, cy⟩ = t at ht ⊢
    go_enter Try.func70, Try.ntmps70
    go_wp2_with (first
      | (go_at_call 87; (with_reducible refine (hall _ _ (H.giveCells m0 (fun _ h => h.elim) 0 rfl)).mono ?_); rintro e w3 ⟨rfl, hb⟩; replace H := H.ext hb; clear hb; dsimp only; (skip))
      | (go_at_call 88; (with_reducible refine (ht _).mono ?_); rintro e w3 ⟨rfl, hb⟩; replace H := H.ext hb; clear hb; dsimp only; (skip))
      | (guard_target =~ wpList _ _ _ (_ :: _) _ _; (first | (guard_target =~ wpList _ _ _ (Oper.mk _ (.load _ _) _ _ _ _ :: _) _ _; refine BigFrame.wpList_want rfl (fun K hK => ?_); (refine o_loadNC (row := ?_) rfl rfl H ?_ ?_ ?_ (hK _ _ ?_); rotate_left 1; (repeat first | exact .head _ | apply List.Mem.tail); (focus (intro _; simp; done)); (focus (intro _; simp; done))); clear hK K) | ((first | (guard_target =~ wpList _ _ _ (Oper.mk _ (.box _ _) _ _ _ _ :: _) _ _; refine BigFrame.wpList_want rfl (fun K hK => ?_); refine o_box rfl H rfl (fun w3 b2 he H2 => hK _ _ ?_)) | (guard_target =~ wpList _ _ _ (Oper.mk _ (.buildSlice _ _ _) _ _ _ _ :: _) _ _; refine BigFrame.wpList_want rfl (fun K hK => ?_); refine o_buildSlice (C := ?_) (E := ?_) rfl rfl H ?_ rfl (fun w3 b2 he H2 => hK _ _ ?_); rotate_left 2; (focus (intro _; simp [go_sem, Instr.buildSlice]; with_reducible exact rfl)))); clear hK K he; clear H; (try clear w2); revert w3; intro w2 H; simp [Act.eval, Value.cells, setL, List.getD] at H)); simp only [Act.put, List.setIfInBounds_toArray, List.set_cons_succ, List.set_cons_zero]))
    go_ret
    exact ⟨rfl, H.below⟩
  · rw [if_neg hin]
    have hin : (inB ⟨ax, ay⟩ && (inB ⟨bx, b_y⟩ && inB ⟨cx, cy⟩)) = false := by simpa using hin
    rw [hin] at hall
    clear hin
    go_enter Try.func70, Try.ntmps70
    go_wp2_with (first
      | (go_at_call 87; (with_reducible refine (hall _ _ (H.giveCells m0 (fun _ h => h.elim) 0 rfl)).mono ?_); rintro e w3 ⟨rfl, hb⟩; replace H := H.ext hb; clear hb; dsimp only; (skip))
      | (guard_target =~ wpList _ _ _ (_ :: _) _ _; (first | (guard_target =~ wpList _ _ _ (Oper.mk _ (.load _ _) _ _ _ _ :: _) _ _; refine BigFrame.wpList_want rfl (fun K hK => ?_); (refine o_loadNC (row := ?_) rfl rfl H ?_ ?_ ?_ (hK _ _ ?_); rotate_left 1; (repeat first | exact .head _ | apply List.Mem.tail); (focus (intro _; simp; done)); (focus (intro _; simp; done))); clear hK K) | ((first | (guard_target =~ wpList _ _ _ (Oper.mk _ (.box _ _) _ _ _ _ :: _) _ _; refine BigFrame.wpList_want rfl (fun K hK => ?_); refine o_box rfl H rfl (fun w3 b2 he H2 => hK _ _ ?_)) | (guard_target =~ wpList _ _ _ (Oper.mk _ (.buildSlice _ _ _) _ _ _ _ :: _) _ _; refine BigFrame.wpList_want rfl (fun K hK => ?_); refine o_buildSlice (C := ?_) (E := ?_) rfl rfl H ?_ rfl (fun w3 b2 he H2 => hK _ _ ?_); rotate_left 2; (focus (intro _; simp [go_sem, Instr.buildSlice]; with_reducible exact rfl)))); clear hK K he; clear H; (try clear w2); revert w3; intro w2 H; simp [Act.eval, Value.cells, setL, List.getD] at H)); simp only [Act.put, List.setIfInBounds_toArray, List.set_cons_succ, List.set_cons_zero]))
    go_ret
    exact ⟨rfl, H.below⟩
set_option maxRecDepth 100000 in
set_option maxHeartbeats 4000000 in
theorem geomHalf_any (ox oy ax ay : Int) (w : World) :
    Calls Try.prog 91 #[pV ox oy, pV ax ay] w fun e w' => e = .returned (.int .i64 (halfZ ⟨ox, oy⟩ ⟨ax, ay⟩)) ∧ Below w.heap.size w w' := by
  have H := Own.start w
  obtain ⟨v, hv⟩ : ∃ v, halfZ ⟨ox, oy⟩ ⟨ax, ay⟩ = v := ⟨_, rfl⟩
  have HV := Lib.hid hv
  rw [hv]; clear hv
  obtain ⟨v1, hv1⟩ : ∃ v, decide (oy < ay) = v := ⟨_, rfl⟩
  obtain ⟨v2, hv2⟩ : ∃ v, (ay == oy) = v := ⟨_, rfl⟩
  obtain ⟨v3, hv3⟩ : ∃ v, decide (ox < ax) = v := ⟨_, rfl⟩
  have hz : halfZ ⟨ox, oy⟩ ⟨ax, ay⟩ = if (v1 || (v2 && v3)) = true then 0 else 1 := by
    unfold halfZ; rw [← hv1, ← hv2, ← hv3]
    simp only [Bool.or_eq_true, Bool.and_eq_true, decide_eq_true_eq, beq_iff_eq]
  have HZ := Lib.hid hz
  clear hz
  cases v1 <;> cases v2 <;> cases v3
  all_goals
    go_enter Try.func91, Try.ntmps91
    have tk0 : True := trivial
    have tk1 : True := trivial
    go_wp2_with (first
      | go_big_skip
      | (guard_target =~ wpList _ _ _ (_ :: _) _ _; (first | (guard_target =~ wpList _ _ _ (Oper.mk _ (.load _ _) _ _ _ _ :: _) _ _; refine BigFrame.wpList_want rfl (fun K hK => ?_); (refine o_loadC (v := ?_) (row := ?_) rfl rfl H ?_ ?_ ?_ (hK _ _ ?_); rotate_left 2; (repeat first | exact .head _ | apply List.Mem.tail); (exact rfl); (focus (intro _; simp; done))); clear hK K) | ((guard_target =~ wpList _ _ _ (Oper.mk _ (.box _ _) _ _ _ _ :: _) _ _; refine BigFrame.wpList_want rfl (fun K hK => ?_); refine o_box rfl H rfl (fun w3 b2 he H2 => hK _ _ ?_)); clear hK K he; clear H; (try clear w2); revert w3; intro w2 H; simp [Act.eval, Value.cells, setL, List.getD] at H; (first | (clear tk0; rename Nat => b1) | (clear tk1; rename Nat => b2)))); simp only [Act.put, List.setIfInBounds_toArray, List.set_cons_succ, List.set_cons_zero]))
    go_ret
    exact ⟨ret_i (by rw [← HV.out, HZ.out]; rfl), H.below⟩
set_option maxRecDepth 100000 in
set_option maxHeartbeats 8000000 in
theorem around_any (ox oy ax ay bx b_y : Int) (w : World) :
    Calls Try.prog 75 #[pV ox oy, pV ax ay, pV bx b_y] w fun e w' => e = .returned (.int .i64 (aroundZ ⟨ox, oy⟩ ⟨ax, ay⟩ ⟨bx, b_y⟩)) ∧ Below w.heap.size w w' := by
  have H := Own.start w
  have hall := all3 ox oy ax ay bx b_y
  have h1 := geomHalf_any ox oy ax ay
  have h2 := geomHalf_any ox oy bx b_y
  have e1 := eq_pt ax ay ox oy
  have e2 := eq_pt bx b_y ox oy
  have q1 := pt_eq ax ay ox oy
  have q2 := pt_eq bx b_y ox oy
  rw [← q1] at e1
  rw [← q2] at e2
  clear q1 q2
  obtain ⟨v, hv⟩ : ∃ v, aroundZ ⟨ox, oy⟩ ⟨ax, ay⟩ ⟨bx, b_y⟩ = v := ⟨_, rfl⟩
  have HV := Lib.hid hv
  rw [hv]; clear hv
  obtain ⟨v0, hv0⟩ : ∃ v, (inB ⟨ox, oy⟩ && (inB ⟨ax, ay⟩ && inB ⟨bx, b_y⟩)) = v := ⟨_, rfl⟩
  obtain ⟨v1, hv1⟩ : ∃ v, decide ((⟨ax, ay⟩ : Pt) = ⟨ox, oy⟩) = v := ⟨_, rfl⟩
  obtain ⟨v2, hv2⟩ : ∃ v, decide ((⟨bx, b_y⟩ : Pt) = ⟨ox, oy⟩) = v := ⟨_, rfl⟩
  have hz : aroundZ ⟨ox, oy⟩ ⟨ax, ay⟩ ⟨bx, b_y⟩ = if (v0 && (!v1 && !v2)) = true then aroundL ⟨ox, oy⟩ ⟨ax, ay⟩ ⟨bx, b_y⟩ else 0 := by
    unfold aroundZ; rw [← hv0, ← hv1, ← hv2]
    simp only [Bool.and_eq_true, Bool.not_eq_true', decide_eq_false_iff_not]
  have HZ := Lib.hid hz
  rw [hv0] at hall
  rw [hv1] at e1
  rw [hv2] at e2
  clear hz hv1 hv2
  cases v0
  · clear hv0 h1 h2
    cases v1 <;> cases v2
    all_goals
      go_enter Try.func75, Try.ntmps75
      go_wp2_with (first
        | go_big_skip
        | (go_at_call 87; (with_reducible refine (hall _ _ (H.giveCells m0 (fun _ h => h.elim) 0 rfl)).mono ?_); rintro e w3 ⟨rfl, hb⟩; replace H := H.ext hb; clear hb; dsimp only; (skip))
        | (guard_target =~ wpList _ _ _ (_ :: _) _ _; (first | (guard_target =~ wpList _ _ _ (Oper.mk _ (.load _ _) _ _ _ _ :: _) _ _; refine BigFrame.wpList_want rfl (fun K hK => ?_); (refine o_loadNC (row := ?_) rfl rfl H ?_ ?_ ?_ (hK _ _ ?_); rotate_left 1; (repeat first | exact .head _ | apply List.Mem.tail); (focus (intro _; simp; done)); (focus (intro _; simp; done))); clear hK K) | ((first | (guard_target =~ wpList _ _ _ (Oper.mk _ (.box _ _) _ _ _ _ :: _) _ _; refine BigFrame.wpList_want rfl (fun K hK => ?_); refine o_box rfl H rfl (fun w3 b2 he H2 => hK _ _ ?_)) | (guard_target =~ wpList _ _ _ (Oper.mk _ (.buildSlice _ _ _) _ _ _ _ :: _) _ _; refine BigFrame.wpList_want rfl (fun K hK => ?_); refine o_buildSlice (C := ?_) (E := ?_) rfl rfl H ?_ rfl (fun w3 b2 he H2 => hK _ _ ?_); rotate_left 2; (focus (intro _; simp [go_sem, Instr.buildSlice]; with_reducible exact rfl)))); clear hK K he; clear H; (try clear w2); revert w3; intro w2 H; simp [Act.eval, Value.cells, setL, List.getD] at H)); simp only [Act.put, List.setIfInBounds_toArray, List.set_cons_succ, List.set_cons_zero]))
      go_ret
      exact ⟨ret_i (by rw [← HV.out, HZ.out]; rfl), H.below⟩
  · simp only [Bool.and_eq_true] at hv0
    have ht := turn_any ox oy ax ay bx b_y (in_of hv0.1) (in_of hv0.2.1) (in_of hv0.2.2)
    clear hv0
    cases v1 <;> cases v2
    · have p1 := half_01 ⟨ox, oy⟩ ⟨ax, ay⟩
      have p2 := half_01 ⟨ox, oy⟩ ⟨bx, b_y⟩
      have p3 := turn_pm ⟨ox, oy⟩ ⟨ax, ay⟩ ⟨bx, b_y⟩
      have hl : aroundL ⟨ox, oy⟩ ⟨ax, ay⟩ ⟨bx, b_y⟩ = if halfZ ⟨ox, oy⟩ ⟨ax, ay⟩ - halfZ ⟨ox, oy⟩ ⟨bx, b_y⟩ = 0 then - turnZ ⟨ox, oy⟩ ⟨ax, ay⟩ ⟨bx, b_y⟩ else halfZ ⟨ox, oy⟩ ⟨ax, ay⟩ - halfZ ⟨ox, oy⟩ ⟨bx, b_y⟩ := rfl
      generalize halfZ ⟨ox, oy⟩ ⟨ax, ay⟩ = z1 at h1 p1 hl
      generalize halfZ ⟨ox, oy⟩ ⟨bx, b_y⟩ = z2 at h2 p2 hl
      generalize turnZ ⟨ox, oy⟩ ⟨ax, ay⟩ ⟨bx, b_y⟩ = t at ht p3 hl
      have HL := Lib.hid hl
      obtain ⟨p3a, p3b⟩ := p3
      clear hl
      rcases p1 with rfl | rfl <;> rcases p2 with rfl | rfl
      all_goals
        go_enter Try.func75, Try.ntmps75
        go_wp2_with (first
          | (guard_target =~ Code.wp _ (Code.region 3 _ true) _ _ _; refine region_treeC0 3 (G := True) (.q 0 (.q 1 (.q 2 (.q 3 (.q 4 (.q 5 (.q 6 (.q 7 .nil)))))))) (by kernel_rfl) (by intro c a d v w h; cases d <;> exact h) (by kernel_rfl) H ⟨trivial⟩ (fun _ w3 H2 => ?_); (clear H; (try clear w2); revert w3; intro w2 H))
          | (go_at_call 87; (with_reducible refine (hall _ _ (H.giveCells m0 (fun _ h => h.elim) 0 rfl)).mono ?_); rintro e w3 ⟨rfl, hb⟩; replace H := H.ext hb; clear hb; dsimp only; (skip))
          | (go_at_call 88; (with_reducible refine (ht _).mono ?_); rintro e w3 ⟨rfl, hb⟩; replace H := H.ext hb; clear hb; dsimp only; (skip))
          | (guard_target =~ wpList _ _ _ (_ :: _) _ _; (first | (guard_target =~ wpList _ _ _ (Oper.mk _ (.load _ _) _ _ _ _ :: _) _ _; refine BigFrame.wpList_want rfl (fun K hK => ?_); (refine o_loadNC (row := ?_) rfl rfl H ?_ ?_ ?_ (hK _ _ ?_); rotate_left 1; (repeat first | exact .head _ | apply List.Mem.tail); (focus (intro _; simp; done)); (focus (intro _; simp; done))); clear hK K) | ((first | (guard_target =~ wpList _ _ _ (Oper.mk _ (.box _ _) _ _ _ _ :: _) _ _; refine BigFrame.wpList_want rfl (fun K hK => ?_); refine o_box rfl H rfl (fun w3 b2 he H2 => hK _ _ ?_)) | (guard_target =~ wpList _ _ _ (Oper.mk _ (.buildSlice _ _ _) _ _ _ _ :: _) _ _; refine BigFrame.wpList_want rfl (fun K hK => ?_); refine o_buildSlice (C := ?_) (E := ?_) rfl rfl H ?_ rfl (fun w3 b2 he H2 => hK _ _ ?_); rotate_left 2; (focus (intro _; simp [go_sem, Instr.buildSlice]; with_reducible exact rfl)))); clear hK K he; clear H; (try clear w2); revert w3; intro w2 H; simp [Act.eval, Value.cells, setL, List.getD] at H)); simp only [Act.put, List.setIfInBounds_toArray, List.set_cons_succ, List.set_cons_zero])
          | (guard_target =~ wpTreeC _ _ _ _ _ _ _; first | (guard_target =~ wpTreeC _ _ _ (Tr.e _ Tr.nil) _ _ _; refine treeC_last (by kernel_rfl) H rfl rfl (fun w3 H2 K hK => ?_); clear H; (try clear w2); (revert w3; intro w2 H); simp only [List.getElem_toArray, List.getElem_cons_succ, List.getElem_cons_zero]; (first | fail); simp only [Act.put, List.setIfInBounds_toArray, List.set_cons_succ, List.set_cons_zero]) | (guard_target =~ wpTreeC _ _ _ (Tr.q _ _) _ _ _; first | (refine treeC_quiet ⟨_, H, by repeat first | exact .here | apply Suf.there⟩ rfl rfl rfl (fun K hK => ?_); simp only [List.getElem_toArray, List.getElem_cons_succ, List.getElem_cons_zero]; first | (guard_target =~ Oper.quiet _ (Oper.mk _ (.load _ _) _ _ _ _) _ _ _; (refine q_loadNC (row := ?_) rfl rfl ?_ ?_ ?_ (hK _ ?_); rotate_left 1; (repeat first | exact .head _ | apply List.Mem.tail); (focus (intro _; simp; done)); (focus (intro _; simp; done))); clear hK K; simp only [Act.put, List.setIfInBounds_toArray, List.set_cons_succ, List.set_cons_zero]) | (go_big_quiet_op; (try refine ⟨_, fun _ _ => rfl, ?_⟩); refine hK _ ?_; clear hK K)) | (refine treeC_call (v := ?_) ⟨_, H, by repeat first | exact .here | apply Suf.there⟩ rfl rfl (fun w3 H K hK => ?_) ?_; rotate_left 1; (focus (simp only [List.getElem_toArray, List.getElem_cons_succ, List.getElem_cons_zero]; go_big_op; first | (go_at_call 87; (with_reducible refine (hall _ _ (H.giveCells m0 (fun _ h => h.elim) 0 rfl)).mono ?_); rintro e w3 ⟨rfl, hb⟩; dsimp only; first | exact hK _ hb | exact hK _ (Ext.refl _)) | (go_at_call 91; (with_reducible refine (h1 _).mono ?_); rintro e w3 ⟨rfl, hb⟩; dsimp only; first | exact hK _ hb | exact hK _ (Ext.refl _)) | (go_at_call 91; (with_reducible refine (h2 _).mono ?_); rintro e w3 ⟨rfl, hb⟩; dsimp only; first | exact hK _ hb | exact hK _ (Ext.refl _)) | (go_at_call 88; (with_reducible refine (ht _).mono ?_); rintro e w3 ⟨rfl, hb⟩; dsimp only; first | exact hK _ hb | exact hK _ (Ext.refl _)))); simp only [List.getElem_toArray, List.getElem_cons_succ, List.getElem_cons_zero, Act.put, List.setIfInBounds_toArray, List.set_cons_succ, List.set_cons_zero]) | (refine treeC_skip ⟨_, H, by repeat first | exact .here | apply Suf.there⟩ rfl rfl ?_; simp only [List.getElem_toArray, List.getElem_cons_succ, List.getElem_cons_zero, Act.put, List.setIfInBounds_toArray, List.set_cons_succ, List.set_cons_zero])) | (guard_target =~ wpTreeC _ _ _ (Tr.both _ _) _ _ _; refine treeC_both ?_ ?_) | (guard_target =~ wpTreeC _ _ _ (Tr.e _ _) _ _ _; first | (refine treeC_one H rfl rfl (fun w3 H2 K hK => ?_); clear H; (try clear w2); (revert w3; intro w2 H); simp only [List.getElem_toArray, List.getElem_cons_succ, List.getElem_cons_zero]; first | ((first | fail); simp only [Act.put, List.setIfInBounds_toArray, List.set_cons_succ, List.set_cons_zero]) | (go_big_op; (first | fail))) | (refine treeC_one_skip (fun w3 hx => ⟨_, H.ext hx, by repeat first | exact .here | apply Suf.there⟩) rfl rfl (fun w3 hx => ?_); replace H := H.ext hx; clear hx; (try clear w2); revert w3; intro w2 H; simp only [List.getElem_toArray, List.getElem_cons_succ, List.getElem_cons_zero, Act.put, List.setIfInBounds_toArray, List.set_cons_succ, List.set_cons_zero])) | (guard_target =~ wpTreeC _ _ _ Tr.nil _ _ _; refine treeC_nil H (fun w3 H2 => ?_); clear H; (try clear w2); revert w3; intro w2 H)))
        go_ret
        exact ⟨ret_i (by rw [← HV.out, HZ.out, if_pos (show (true && (!false && !false)) = true from rfl), HL.out]; rfl), H.below⟩
    all_goals
      clear h1 h2 ht
      go_enter Try.func75, Try.ntmps75
      go_wp2_with (first
        | go_big_skip
        | (go_at_call 87; (with_reducible refine (hall _ _ (H.giveCells m0 (fun _ h => h.elim) 0 rfl)).mono ?_); rintro e w3 ⟨rfl, hb⟩; replace H := H.ext hb; clear hb; dsimp only; (skip))
        | (guard_target =~ wpList _ _ _ (_ :: _) _ _; (first | (guard_target =~ wpList _ _ _ (Oper.mk _ (.load _ _) _ _ _ _ :: _) _ _; refine BigFrame.wpList_want rfl (fun K hK => ?_); (refine o_loadNC (row := ?_) rfl rfl H ?_ ?_ ?_ (hK _ _ ?_); rotate_left 1; (repeat first | exact .head _ | apply List.Mem.tail); (focus (intro _; simp; done)); (focus (intro _; simp; done))); clear hK K) | ((first | (guard_target =~ wpList _ _ _ (Oper.mk _ (.box _ _) _ _ _ _ :: _) _ _; refine BigFrame.wpList_want rfl (fun K hK => ?_); refine o_box rfl H rfl (fun w3 b2 he H2 => hK _ _ ?_)) | (guard_target =~ wpList _ _ _ (Oper.mk _ (.buildSlice _ _ _) _ _ _ _ :: _) _ _; refine BigFrame.wpList_want rfl (fun K hK => ?_); refine o_buildSlice (C := ?_) (E := ?_) rfl rfl H ?_ rfl (fun w3 b2 he H2 => hK _ _ ?_); rotate_left 2; (focus (intro _; simp [go_sem, Instr.buildSlice]; with_reducible exact rfl)))); clear hK K he; clear H; (try clear w2); revert w3; intro w2 H; simp [Act.eval, Value.cells, setL, List.getD] at H)); simp only [Act.put, List.setIfInBounds_toArray, List.set_cons_succ, List.set_cons_zero]))
      go_ret
      exact ⟨ret_i (by rw [← HV.out, HZ.out]; rfl), H.below⟩
set_option maxRecDepth 100000 in
set_option maxHeartbeats 4000000 in
theorem refLess_any (ax ay bx b_y : Int) (w : World) :
    Calls Try.prog 42 #[pV ax ay, pV bx b_y] w fun e w' => e = .returned (.bool (lessB ⟨ax, ay⟩ ⟨bx, b_y⟩)) ∧ Below w.heap.size w w' := by
  have H := Own.start w
  obtain ⟨v, hv⟩ : ∃ v, lessB ⟨ax, ay⟩ ⟨bx, b_y⟩ = v := ⟨_, rfl⟩
  have HV := Lib.hid hv
  rw [hv]; clear hv
  obtain ⟨v1, hv1⟩ : ∃ v, (ax == bx) = v := ⟨_, rfl⟩
  have hv1' : (ax != bx) = !v1 := by rw [bne, hv1]
  cases v1
  all_goals
    simp only [Bool.not_false, Bool.not_true] at hv1'
    go_enter Try.func42, Try.ntmps42
    have tk0 : True := trivial
    have tk1 : True := trivial
    go_wp2_with (guard_target =~ wpList _ _ _ (_ :: _) _ _; (first | (guard_target =~ wpList _ _ _ (Oper.mk _ (.load _ _) _ _ _ _ :: _) _ _; refine BigFrame.wpList_want rfl (fun K hK => ?_); (refine o_loadC (v := ?_) (row := ?_) rfl rfl H ?_ ?_ ?_ (hK _ _ ?_); rotate_left 2; (repeat first | exact .head _ | apply List.Mem.tail); (exact rfl); (focus (intro _; simp; done))); clear hK K) | ((guard_target =~ wpList _ _ _ (Oper.mk _ (.box _ _) _ _ _ _ :: _) _ _; refine BigFrame.wpList_want rfl (fun K hK => ?_); refine o_box rfl H rfl (fun w3 b2 he H2 => hK _ _ ?_)); clear hK K he; clear H; (try clear w2); revert w3; intro w2 H; simp [Act.eval, Value.cells, setL, List.getD] at H; (first | (clear tk0; rename Nat => b1) | (clear tk1; rename Nat => b2)))); simp only [Act.put, List.setIfInBounds_toArray, List.set_cons_succ, List.set_cons_zero])
    go_ret
    refine ⟨ret_b ?_, H.below⟩
    rw [← HV.out]
    simp only [beq_eq_false_iff_ne, beq_iff_eq, ne_eq] at hv1
    exact less_d (a := ax) (b := ay) (c := bx) (d := b_y) (by omega)
set_option maxRecDepth 100000 in
set_option maxHeartbeats 4000000 in
theorem wedge_any (x y : Int) (w : World) :
    Calls Try.prog 78 #[.int .i64 x, .int .i64 y] w fun e w' => e = .returned (.int .i64 (wedgeZ x y)) ∧ Below w.heap.size w w' := by
  have H := Own.start w
  obtain ⟨v, hv⟩ : ∃ v, wedgeZ x y = v := ⟨_, rfl⟩
  have HV := Lib.hid hv
  rw [hv]; clear hv
  obtain ⟨v1, hv1⟩ : ∃ v, (y == 0) = v := ⟨_, rfl⟩
  obtain ⟨v2, hv2⟩ : ∃ v, decide (0 < x) = v := ⟨_, rfl⟩
  obtain ⟨v3, hv3⟩ : ∃ v, decide (0 < y) = v := ⟨_, rfl⟩
  obtain ⟨v4, hv4⟩ : ∃ v, (x == 0) = v := ⟨_, rfl⟩
  obtain ⟨v5, hv5⟩ : ∃ v, decide (x < 0) = v := ⟨_, rfl⟩
  have hz : wedgeZ x y = if v1 = true then (if v2 = true then 0 else 4) else if v3 = true then (if v2 = true then 1 else if v4 = true then 2 else 3) else (if v5 = true then 5 else if v4 = true then 6 else 7) := by
    unfold wedgeZ; rw [← hv1, ← hv2, ← hv3, ← hv4, ← hv5]
    simp only [decide_eq_true_eq, beq_iff_eq]
  have HZ := Lib.hid hz
  clear hz
  cases v1 <;> cases v2 <;> cases v3 <;> cases v4 <;> cases v5
  all_goals
    go_enter Try.func78, Try.ntmps78
    go_wp2_with (first | fail)
    go_ret
    exact ⟨ret_i (by rw [← HV.out, HZ.out]; rfl), H.below⟩
theorem wedge_07 (x y : Int) : 0 ≤ wedgeZ x y ∧ wedgeZ x y ≤ 7 := by
  unfold wedgeZ; repeat' split
  all_goals omega
set_option maxRecDepth 100000 in
set_option maxHeartbeats 8000000 in
theorem refAround_any (ox oy ax ay bx b_y : Int) (io : InP ⟨ox, oy⟩) (ia : InP ⟨ax, ay⟩) (ib : InP ⟨bx, b_y⟩) (w : World) :
    Calls Try.prog 54 #[pV ox oy, pV ax ay, pV bx b_y] w fun e w' => e = .returned (.int .i64 (aroundR ⟨ox, oy⟩ ⟨ax, ay⟩ ⟨bx, b_y⟩)) ∧ Below w.heap.size w w' := by
  have H := Own.start w
  have ht := refTurn_any ox oy ax ay bx b_y io ia ib
  have h1 := wedge_any (ax - ox) (ay - oy)
  have h2 := wedge_any (bx - ox) (b_y - oy)
  have p1 := wedge_07 (ax - ox) (ay - oy)
  have p2 := wedge_07 (bx - ox) (b_y - oy)
  have p3 := turn_pm ⟨ox, oy⟩ ⟨ax, ay⟩ ⟨bx, b_y⟩
  have hl : aroundR ⟨ox, oy⟩ ⟨ax, ay⟩ ⟨bx, b_y⟩ = if wedgeZ (ax - ox) (ay - oy) < wedgeZ (bx - ox) (b_y - oy) then -1 else if wedgeZ (bx - ox) (b_y - oy) < wedgeZ (ax - ox) (ay - oy) then 1 else - turnZ ⟨ox, oy⟩ ⟨ax, ay⟩ ⟨bx, b_y⟩ := rfl
  generalize wedgeZ (ax - ox) (ay - oy) = z1 at h1 p1 hl
  generalize wedgeZ (bx - ox) (b_y - oy) = z2 at h2 p2 hl
  generalize turnZ ⟨ox, oy⟩ ⟨ax, ay⟩ ⟨bx, b_y⟩ = t at ht p3 hl
  obtain ⟨v1, hv1⟩ : ∃ v, decide (z1 < z2) = v := ⟨_, rfl⟩
  obtain ⟨v2, hv2⟩ : ∃ v, decide (z2 < z1) = v := ⟨_, rfl⟩
  have hl' : aroundR ⟨ox, oy⟩ ⟨ax, ay⟩ ⟨bx, b_y⟩ = if v1 = true then -1 else if v2 = true then 1 else - t := by
    rw [hl, ← hv1, ← hv2]; simp only [decide_eq_true_eq]
  obtain ⟨v, hv⟩ : ∃ v, aroundR ⟨ox, oy⟩ ⟨ax, ay⟩ ⟨bx, b_y⟩ = v := ⟨_, rfl⟩
  have HV := Lib.hid hv
  rw [hv]; clear hv
  have HL := Lib.hid hl'
  unfold InP at io ia ib
  simp only at io ia ib
  obtain ⟨p3a, p3b⟩ := p3
  have s1 : IntKind.i64.wrap (ax - ox) = ax - ox := IntWalk.i64_in _ (by omega)
  have s2 : IntKind.i64.wrap (ay - oy) = ay - oy := IntWalk.i64_in _ (by omega)
  have s3 : IntKind.i64.wrap (bx - ox) = bx - ox := IntWalk.i64_in _ (by omega)
  have s4 : IntKind.i64.wrap (b_y - oy) = b_y - oy := IntWalk.i64_in _ (by omega)
  clear hl hl' io ia ib p1 p2
  cases v1 <;> cases v2
  all_goals
    go_enter Try.func54, Try.ntmps54
    have tk0 : True := trivial
    have tk1 : True := trivial
    have tk2 : True := trivial
    go_wp2_with (first
      | (go_at_call 78; (with_reducible refine (h1 _).mono ?_); rintro e w3 ⟨rfl, hb⟩; replace H := H.ext hb; clear hb; dsimp only; (skip))
      | (go_at_call 78; (with_reducible refine (h2 _).mono ?_); rintro e w3 ⟨rfl, hb⟩; replace H := H.ext hb; clear hb; dsimp only; (skip))
      | (go_at_call 72; (with_reducible refine (ht _).mono ?_); rintro e w3 ⟨rfl, hb⟩; replace H := H.ext hb; clear hb; dsimp only; (skip))
      | (guard_target =~ wpList _ _ _ (_ :: _) _ _; (first | (guard_target =~ wpList _ _ _ (Oper.mk _ (.load _ _) _ _ _ _ :: _) _ _; refine BigFrame.wpList_want rfl (fun K hK => ?_); (first | (refine o_loadC (v := ?_) (row := ?_) rfl rfl H ?_ ?_ ?_ (hK _ _ ?_); rotate_left 2; (repeat first | exact .head _ | apply List.Mem.tail); (exact rfl); (focus (intro _; simp; done))) | (refine o_loadNC (row := ?_) rfl rfl H ?_ ?_ ?_ (hK _ _ ?_); rotate_left 1; (repeat first | exact .head _ | apply List.Mem.tail); (focus (intro _; simp; done)); (focus (intro _; simp; done)))); clear hK K) | ((guard_target =~ wpList _ _ _ (Oper.mk _ (.box _ _) _ _ _ _ :: _) _ _; refine BigFrame.wpList_want rfl (fun K hK => ?_); refine o_box rfl H rfl (fun w3 b2 he H2 => hK _ _ ?_)); clear hK K he; clear H; (try clear w2); revert w3; intro w2 H; simp [Act.eval, Value.cells, setL, List.getD] at H; (first | (clear tk0; rename Nat => b1) | (clear tk1; rename Nat => b2) | (clear tk2; rename Nat => b3)))); simp only [Act.put, List.setIfInBounds_toArray, List.set_cons_succ, List.set_cons_zero]))
    go_ret
    exact ⟨ret_i (by rw [← HV.out, HL.out]; rfl), H.below⟩
end Go.Proofs.Ytlhmjhildlnokaa
