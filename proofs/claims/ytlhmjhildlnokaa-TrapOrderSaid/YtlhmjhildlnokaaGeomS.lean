/-
  The walks of the document's layer 5: whether two lines meet.
-/
import Derived.Test.YtlhmjhildlnokaaGeomR
namespace Go.Proofs.Ytlhmjhildlnokaa
set_option linter.unusedVariables false
set_option linter.unusedSimpArgs false
open Go.RowKit

set_option maxRecDepth 100000 in
set_option maxHeartbeats 8000000 in
/-- All on one line. -/
theorem refMeet_line (ax ay bx b_y cx cy dx dy : Int) (ia : InP ⟨ax, ay⟩) (ib : InP ⟨bx, b_y⟩) (ic : InP ⟨cx, cy⟩) (id_ : InP ⟨dx, dy⟩)
    (z1 : turnZ ⟨ax, ay⟩ ⟨bx, b_y⟩ ⟨cx, cy⟩ = 0) (z2 : turnZ ⟨ax, ay⟩ ⟨bx, b_y⟩ ⟨dx, dy⟩ = 0) (w : World) :
    Calls Try.prog 77 #[pV ax ay, pV bx b_y, pV cx cy, pV dx dy] w fun e w' => e = .returned (.bool (meetR ⟨ax, ay⟩ ⟨bx, b_y⟩ ⟨cx, cy⟩ ⟨dx, dy⟩)) ∧ Below w.heap.size w w' := by
  have H := Own.start w
  have ev : meetR ⟨ax, ay⟩ ⟨bx, b_y⟩ ⟨cx, cy⟩ ⟨dx, dy⟩ = (onR ⟨ax, ay⟩ ⟨cx, cy⟩ ⟨dx, dy⟩ || (onR ⟨bx, b_y⟩ ⟨cx, cy⟩ ⟨dx, dy⟩ || (onR ⟨cx, cy⟩ ⟨ax, ay⟩ ⟨bx, b_y⟩ || (onR ⟨dx, dy⟩ ⟨ax, ay⟩ ⟨bx, b_y⟩ || (withinB ⟨ax, ay⟩ ⟨cx, cy⟩ ⟨dx, dy⟩ && withinB ⟨bx, b_y⟩ ⟨cx, cy⟩ ⟨dx, dy⟩))))) := by
    unfold meetR; rw [if_pos ⟨z1, z2⟩]
  rw [ev]; clear ev
  have t1 := refTurn_any ax ay bx b_y cx cy ia ib ic
  have t2 := refTurn_any ax ay bx b_y dx dy ia ib id_
  rw [z1] at t1
  rw [z2] at t2
  clear z1 z2
  have o1 := refOn_any ax ay cx cy dx dy ia ic id_
  have o2 := refOn_any bx b_y cx cy dx dy ib ic id_
  have o3 := refOn_any cx cy ax ay bx b_y ic ia ib
  have o4 := refOn_any dx dy ax ay bx b_y id_ ia ib
  have o5 := refWithin_any ax ay cx cy dx dy ia ic id_
  have o6 := refWithin_any bx b_y cx cy dx dy ib ic id_
  clear ia ib ic id_
  generalize onR ⟨ax, ay⟩ ⟨cx, cy⟩ ⟨dx, dy⟩ = v1 at o1 ⊢
  generalize onR ⟨bx, b_y⟩ ⟨cx, cy⟩ ⟨dx, dy⟩ = v2 at o2 ⊢
  generalize onR ⟨cx, cy⟩ ⟨ax, ay⟩ ⟨bx, b_y⟩ = v3 at o3 ⊢
  generalize onR ⟨dx, dy⟩ ⟨ax, ay⟩ ⟨bx, b_y⟩ = v4 at o4 ⊢
  generalize withinB ⟨ax, ay⟩ ⟨cx, cy⟩ ⟨dx, dy⟩ = v5 at o5 ⊢
  generalize withinB ⟨bx, b_y⟩ ⟨cx, cy⟩ ⟨dx, dy⟩ = v6 at o6 ⊢
  obtain ⟨v, hv⟩ : ∃ v, (v1 || (v2 || (v3 || (v4 || (v5 && v6))))) = v := ⟨_, rfl⟩
  rw [hv]
  have HV := Lib.hid hv
  clear hv
  go_enter Try.func77, Try.ntmps77
  go_wp2_with (first
    | go_big_skip
    | (go_at_call 72; (with_reducible refine (t1 _).mono ?_); rintro e w3 ⟨rfl, hb⟩; replace H := H.ext hb; clear hb; dsimp only; (skip))
    | (go_at_call 72; (with_reducible refine (t2 _).mono ?_); rintro e w3 ⟨rfl, hb⟩; replace H := H.ext hb; clear hb; dsimp only; (skip))
    | (go_at_call 76; (with_reducible refine (o1 _).mono ?_); rintro e w3 ⟨rfl, hb⟩; replace H := H.ext hb; clear hb; dsimp only; (skip))
    | (go_at_call 76; (with_reducible refine (o2 _).mono ?_); rintro e w3 ⟨rfl, hb⟩; replace H := H.ext hb; clear hb; dsimp only; (skip))
    | (go_at_call 76; (with_reducible refine (o3 _).mono ?_); rintro e w3 ⟨rfl, hb⟩; replace H := H.ext hb; clear hb; dsimp only; (skip))
    | (go_at_call 76; (with_reducible refine (o4 _).mono ?_); rintro e w3 ⟨rfl, hb⟩; replace H := H.ext hb; clear hb; dsimp only; (skip))
    | (go_at_call 92; (with_reducible refine (o5 _).mono ?_); rintro e w3 ⟨rfl, hb⟩; replace H := H.ext hb; clear hb; dsimp only; (skip))
    | (go_at_call 92; (with_reducible refine (o6 _).mono ?_); rintro e w3 ⟨rfl, hb⟩; replace H := H.ext hb; clear hb; dsimp only; (skip))
    | (guard_target =~ wpList _ _ _ (_ :: _) _ _; (first | (guard_target =~ wpList _ _ _ (Oper.mk _ (.load _ _) _ _ _ _ :: _) _ _; refine BigFrame.wpList_want rfl (fun K hK => ?_); (refine o_loadNC (row := ?_) rfl rfl H ?_ ?_ ?_ (hK _ _ ?_); rotate_left 1; (repeat first | exact .head _ | apply List.Mem.tail); (focus (intro _; simp; done)); (focus (intro _; simp; done))); clear hK K) | ((guard_target =~ wpList _ _ _ (Oper.mk _ (.box _ _) _ _ _ _ :: _) _ _; refine BigFrame.wpList_want rfl (fun K hK => ?_); refine o_box rfl H rfl (fun w3 b2 he H2 => hK _ _ ?_)); clear hK K he; clear H; (try clear w2); revert w3; intro w2 H; simp [Act.eval, Value.cells, setL, List.getD] at H)); simp only [Act.put, List.setIfInBounds_toArray, List.set_cons_succ, List.set_cons_zero]))
  all_goals
    go_ret
    exact ⟨ret_b (by rw [← HV.out]; simp [*]), H.below⟩
set_option maxRecDepth 100000 in
set_option maxHeartbeats 8000000 in
/-- Not all on one line. -/
theorem refMeet_apart (ax ay bx b_y cx cy dx dy : Int) (ia : InP ⟨ax, ay⟩) (ib : InP ⟨bx, b_y⟩) (ic : InP ⟨cx, cy⟩) (id_ : InP ⟨dx, dy⟩)
    (z : ¬ (turnZ ⟨ax, ay⟩ ⟨bx, b_y⟩ ⟨cx, cy⟩ = 0 ∧ turnZ ⟨ax, ay⟩ ⟨bx, b_y⟩ ⟨dx, dy⟩ = 0)) (w : World) :
    Calls Try.prog 77 #[pV ax ay, pV bx b_y, pV cx cy, pV dx dy] w fun e w' => e = .returned (.bool (meetR ⟨ax, ay⟩ ⟨bx, b_y⟩ ⟨cx, cy⟩ ⟨dx, dy⟩)) ∧ Below w.heap.size w w' := by
  have H := Own.start w
  have ev : meetR ⟨ax, ay⟩ ⟨bx, b_y⟩ ⟨cx, cy⟩ ⟨dx, dy⟩ = (!((decide ((⟨ax, ay⟩ : Pt) = ⟨cx, cy⟩) || decide ((⟨ax, ay⟩ : Pt) = ⟨dx, dy⟩)) || (decide ((⟨bx, b_y⟩ : Pt) = ⟨cx, cy⟩) || decide ((⟨bx, b_y⟩ : Pt) = ⟨dx, dy⟩))) &&
      !(decide (turnZ ⟨ax, ay⟩ ⟨bx, b_y⟩ ⟨cx, cy⟩ = turnZ ⟨ax, ay⟩ ⟨bx, b_y⟩ ⟨dx, dy⟩) || decide (turnZ ⟨cx, cy⟩ ⟨dx, dy⟩ ⟨ax, ay⟩ = turnZ ⟨cx, cy⟩ ⟨dx, dy⟩ ⟨bx, b_y⟩))) := by
    unfold meetR; rw [if_neg z]
    by_cases h : ((⟨ax, ay⟩ : Pt) = ⟨cx, cy⟩ ∨ (⟨ax, ay⟩ : Pt) = ⟨dx, dy⟩) ∨ (⟨bx, b_y⟩ : Pt) = ⟨cx, cy⟩ ∨ (⟨bx, b_y⟩ : Pt) = ⟨dx, dy⟩
    · rw [if_pos h]
      have : ((decide ((⟨ax, ay⟩ : Pt) = ⟨cx, cy⟩) || decide ((⟨ax, ay⟩ : Pt) = ⟨dx, dy⟩)) || (decide ((⟨bx, b_y⟩ : Pt) = ⟨cx, cy⟩) || decide ((⟨bx, b_y⟩ : Pt) = ⟨dx, dy⟩))) = true := by
        simp only [Bool.or_eq_true, decide_eq_true_eq]; exact h
      rw [this]; rfl
    · rw [if_neg h]
      have : ((decide ((⟨ax, ay⟩ : Pt) = ⟨cx, cy⟩) || decide ((⟨ax, ay⟩ : Pt) = ⟨dx, dy⟩)) || (decide ((⟨bx, b_y⟩ : Pt) = ⟨cx, cy⟩) || decide ((⟨bx, b_y⟩ : Pt) = ⟨dx, dy⟩))) = false := by
        rw [Bool.eq_false_iff]; simp only [ne_eq, Bool.or_eq_true, decide_eq_true_eq]; exact h
      rw [this]; rfl
  rw [ev]; clear ev
  have t1 := refTurn_any ax ay bx b_y cx cy ia ib ic
  have t2 := refTurn_any ax ay bx b_y dx dy ia ib id_
  have t3 := refTurn_any cx cy dx dy ax ay ic id_ ia
  have t4 := refTurn_any cx cy dx dy bx b_y ic id_ ib
  have e1 := eq_pt ax ay cx cy
  have e2 := eq_pt ax ay dx dy
  have e3 := eq_pt bx b_y cx cy
  have e4 := eq_pt bx b_y dx dy
  rw [← pt_eq] at e1 e2 e3 e4
  clear ia ib ic id_
  generalize turnZ ⟨ax, ay⟩ ⟨bx, b_y⟩ ⟨cx, cy⟩ = z1 at t1 z ⊢
  generalize turnZ ⟨ax, ay⟩ ⟨bx, b_y⟩ ⟨dx, dy⟩ = z2 at t2 z ⊢
  generalize turnZ ⟨cx, cy⟩ ⟨dx, dy⟩ ⟨ax, ay⟩ = z3 at t3 ⊢
  generalize turnZ ⟨cx, cy⟩ ⟨dx, dy⟩ ⟨bx, b_y⟩ = z4 at t4 ⊢
  generalize decide ((⟨ax, ay⟩ : Pt) = ⟨cx, cy⟩) = u1 at e1 ⊢
  generalize decide ((⟨ax, ay⟩ : Pt) = ⟨dx, dy⟩) = u2 at e2 ⊢
  generalize decide ((⟨bx, b_y⟩ : Pt) = ⟨cx, cy⟩) = u3 at e3 ⊢
  generalize decide ((⟨bx, b_y⟩ : Pt) = ⟨dx, dy⟩) = u4 at e4 ⊢
  obtain ⟨v, hv⟩ : ∃ v, (!((u1 || u2) || (u3 || u4)) && !(decide (z1 = z2) || decide (z3 = z4))) = v := ⟨_, rfl⟩
  rw [hv]
  have HV := Lib.hid hv
  clear hv
  have hz : (z1 == 0) = false ∨ ((z1 == 0) = true ∧ (z2 == 0) = false) := by
    by_cases h : z1 = 0
    · exact .inr ⟨by simpa using h, by simpa using fun h2 => z ⟨h, h2⟩⟩
    · exact .inl (by simpa using h)
  clear z
  have hq : decide (z1 = z2) = (z1 == z2) := by rw [Bool.eq_iff_iff]; simp
  have hq2 : decide (z3 = z4) = (z3 == z4) := by rw [Bool.eq_iff_iff]; simp
  rw [hq, hq2] at HV
  clear hq2
  obtain ⟨q, eq⟩ : ∃ q, (z1 == z2) = q := ⟨_, rfl⟩
  rw [eq] at HV
  clear hq
  rcases hz with hz | ⟨hz, hz'⟩ <;> cases q
  all_goals
    go_enter Try.func77, Try.ntmps77
    go_wp2_with (first
      | go_big_skip
      | (guard_target =~ Code.wp _ (Code.region 5 _ true) _ _ _; refine region_tree0 5 (G := True) (.q 0 (.q 1 (.q 2 (.q 4 (.q 5 (.q 6 (.e 3 (.e 7 (.q 8 (.q 9 (.q 10 (.q 11 (.q 12 (.q 14 (.q 15 (.q 16 (.e 13 (.e 17 (.q 18 (.q 19 (.q 20 .nil))))))))))))))))))))) (by kernel_rfl) (by intro c a d v w h; cases d <;> exact h) (by kernel_rfl) H ⟨trivial⟩ (fun _ w3 H2 => ?_); (clear H; (try clear w2); revert w3; intro w2 H))
      | (go_at_call 72; (with_reducible refine (t1 _).mono ?_); rintro e w3 ⟨rfl, hb⟩; replace H := H.ext hb; clear hb; dsimp only; (first | (refine hK _ _ ⟨_, H, by repeat first | exact .here | apply Suf.there⟩ ?_; clear hK K; (try simp only [Act.put, List.setIfInBounds_toArray, List.set_cons_succ, List.set_cons_zero])) | skip))
      | (go_at_call 72; (with_reducible refine (t2 _).mono ?_); rintro e w3 ⟨rfl, hb⟩; replace H := H.ext hb; clear hb; dsimp only; (first | (refine hK _ _ ⟨_, H, by repeat first | exact .here | apply Suf.there⟩ ?_; clear hK K; (try simp only [Act.put, List.setIfInBounds_toArray, List.set_cons_succ, List.set_cons_zero])) | skip))
      | (go_at_call 72; (with_reducible refine (t3 _).mono ?_); rintro e w3 ⟨rfl, hb⟩; replace H := H.ext hb; clear hb; dsimp only; (refine hK _ _ ⟨_, H, by repeat first | exact .here | apply Suf.there⟩ ?_; clear hK K; (try simp only [Act.put, List.setIfInBounds_toArray, List.set_cons_succ, List.set_cons_zero])))
      | (go_at_call 72; (with_reducible refine (t4 _).mono ?_); rintro e w3 ⟨rfl, hb⟩; replace H := H.ext hb; clear hb; dsimp only; (refine hK _ _ ⟨_, H, by repeat first | exact .here | apply Suf.there⟩ ?_; clear hK K; (try simp only [Act.put, List.setIfInBounds_toArray, List.set_cons_succ, List.set_cons_zero])))
      | (guard_target =~ wpList _ _ _ (_ :: _) _ _; (first | (guard_target =~ wpList _ _ _ (Oper.mk _ (.load _ _) _ _ _ _ :: _) _ _; refine BigFrame.wpList_want rfl (fun K hK => ?_); (refine o_loadNC (row := ?_) rfl rfl H ?_ ?_ ?_ (hK _ _ ?_); rotate_left 1; (repeat first | exact .head _ | apply List.Mem.tail); (focus (intro _; simp; done)); (focus (intro _; simp; done))); clear hK K) | ((guard_target =~ wpList _ _ _ (Oper.mk _ (.box _ _) _ _ _ _ :: _) _ _; refine BigFrame.wpList_want rfl (fun K hK => ?_); refine o_box rfl H rfl (fun w3 b2 he H2 => hK _ _ ?_)); clear hK K he; clear H; (try clear w2); revert w3; intro w2 H; simp [Act.eval, Value.cells, setL, List.getD] at H)); simp only [Act.put, List.setIfInBounds_toArray, List.set_cons_succ, List.set_cons_zero])
      | (guard_target =~ wpTree _ _ _ _ _ _ _; first | (guard_target =~ wpTree _ _ _ (Tr.q _ _) _ _ _; first | (refine tree_quiet ⟨_, H, by repeat first | exact .here | apply Suf.there⟩ rfl rfl rfl (fun K hK => ?_); simp only [List.getElem_toArray, List.getElem_cons_succ, List.getElem_cons_zero]; first | (guard_target =~ Oper.quiet _ (Oper.mk _ (.load _ _) _ _ _ _) _ _ _; (refine q_loadNC (row := ?_) rfl rfl ?_ ?_ ?_ (hK _ ?_); rotate_left 1; (repeat first | exact .head _ | apply List.Mem.tail); (focus (intro _; simp; done)); (focus (intro _; simp; done))); clear hK K; simp only [Act.put, List.setIfInBounds_toArray, List.set_cons_succ, List.set_cons_zero]) | (go_big_quiet_op; (try refine ⟨_, fun _ _ => rfl, ?_⟩); refine hK _ ?_; clear hK K)) | (refine tree_skip ⟨_, H, by repeat first | exact .here | apply Suf.there⟩ rfl rfl ?_; simp only [List.getElem_toArray, List.getElem_cons_succ, List.getElem_cons_zero, Act.put, List.setIfInBounds_toArray, List.set_cons_succ, List.set_cons_zero])) | (guard_target =~ wpTree _ _ _ (Tr.both _ _) _ _ _; refine tree_both ?_ ?_) | (guard_target =~ wpTree _ _ _ (Tr.e _ _) _ _ _; first | (refine tree_one rfl rfl (fun K hK => ?_); simp only [List.getElem_toArray, List.getElem_cons_succ, List.getElem_cons_zero]; first | ((first | fail); simp only [Act.put, List.setIfInBounds_toArray, List.set_cons_succ, List.set_cons_zero]) | (go_big_op; (skip))) | (refine tree_one_skip ⟨_, H, by repeat first | exact .here | apply Suf.there⟩ rfl rfl ?_; simp only [List.getElem_toArray, List.getElem_cons_succ, List.getElem_cons_zero, Act.put, List.setIfInBounds_toArray, List.set_cons_succ, List.set_cons_zero])) | (guard_target =~ wpTree _ _ _ Tr.nil _ _ _; refine tree_nil ?_)))
    all_goals
      go_ret
      exact ⟨ret_b (by rw [← HV.out]; simp [*]), H.below⟩
theorem refMeet_any (ax ay bx b_y cx cy dx dy : Int) (ia : InP ⟨ax, ay⟩) (ib : InP ⟨bx, b_y⟩) (ic : InP ⟨cx, cy⟩) (id_ : InP ⟨dx, dy⟩) (w : World) :
    Calls Try.prog 77 #[pV ax ay, pV bx b_y, pV cx cy, pV dx dy] w fun e w' => e = .returned (.bool (meetR ⟨ax, ay⟩ ⟨bx, b_y⟩ ⟨cx, cy⟩ ⟨dx, dy⟩)) ∧ Below w.heap.size w w' := by
  by_cases z : turnZ ⟨ax, ay⟩ ⟨bx, b_y⟩ ⟨cx, cy⟩ = 0 ∧ turnZ ⟨ax, ay⟩ ⟨bx, b_y⟩ ⟨dx, dy⟩ = 0
  · exact refMeet_line ax ay bx b_y cx cy dx dy ia ib ic id_ z.1 z.2 w
  · exact refMeet_apart ax ay bx b_y cx cy dx dy ia ib ic id_ z w
end Go.Proofs.Ytlhmjhildlnokaa
