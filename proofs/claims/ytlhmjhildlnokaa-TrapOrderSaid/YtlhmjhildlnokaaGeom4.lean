/-
  The walks of geom: meet, where all points are in range.
-/
import Derived.Test.YtlhmjhildlnokaaGeom3
namespace Go.Proofs.Ytlhmjhildlnokaa
set_option linter.unusedVariables false
set_option linter.unusedSimpArgs false
open Go.RowKit

set_option maxRecDepth 100000 in
set_option maxHeartbeats 8000000 in
theorem meet_on (ax ay bx b_y cx cy dx dy : Int) (ia : inB ⟨ax, ay⟩ = true) (ib : inB ⟨bx, b_y⟩ = true) (ic : inB ⟨cx, cy⟩ = true) (id_ : inB ⟨dx, dy⟩ = true)
    (n1 : decide ((⟨ax, ay⟩ : Pt) = ⟨bx, b_y⟩) = false) (n2 : decide ((⟨cx, cy⟩ : Pt) = ⟨dx, dy⟩) = false) (hv : (onL ⟨ax, ay⟩ ⟨cx, cy⟩ ⟨dx, dy⟩ || (onL ⟨bx, b_y⟩ ⟨cx, cy⟩ ⟨dx, dy⟩ || (onL ⟨cx, cy⟩ ⟨ax, ay⟩ ⟨bx, b_y⟩ || onL ⟨dx, dy⟩ ⟨ax, ay⟩ ⟨bx, b_y⟩))) = true) (w : World) :
    Calls Try.prog 80 #[pV ax ay, pV bx b_y, pV cx cy, pV dx dy] w fun e w' => e = .returned (.bool (meetL ⟨ax, ay⟩ ⟨bx, b_y⟩ ⟨cx, cy⟩ ⟨dx, dy⟩)) ∧ Below w.heap.size w w' := by
  have H := Own.start w
  have hall := all4 ax ay bx b_y cx cy dx dy
  rw [show (inB ⟨ax, ay⟩ && (inB ⟨bx, b_y⟩ && (inB ⟨cx, cy⟩ && inB ⟨dx, dy⟩))) = true by rw [ia, ib, ic, id_]; rfl] at hall
  have e1 := eq_pt ax ay bx b_y
  have e2 := eq_pt cx cy dx dy
  rw [← pt_eq] at e1 e2
  rw [n1] at e1
  rw [n2] at e2
  have o1 := on_any ax ay cx cy dx dy
  have o2 := on_any bx b_y cx cy dx dy
  have o3 := on_any cx cy ax ay bx b_y
  have o4 := on_any dx dy ax ay bx b_y
  rw [on_in ia ic id_] at o1
  rw [on_in ib ic id_] at o2
  rw [on_in ic ia ib] at o3
  rw [on_in id_ ia ib] at o4
  rw [show meetL ⟨ax, ay⟩ ⟨bx, b_y⟩ ⟨cx, cy⟩ ⟨dx, dy⟩ = true by unfold meetL; rw [hv]; rfl]
  generalize onL ⟨ax, ay⟩ ⟨cx, cy⟩ ⟨dx, dy⟩ = v1 at o1 hv
  generalize onL ⟨bx, b_y⟩ ⟨cx, cy⟩ ⟨dx, dy⟩ = v2 at o2 hv
  generalize onL ⟨cx, cy⟩ ⟨ax, ay⟩ ⟨bx, b_y⟩ = v3 at o3 hv
  generalize onL ⟨dx, dy⟩ ⟨ax, ay⟩ ⟨bx, b_y⟩ = v4 at o4 hv
  clear ia ib ic id_ n1 n2
  cases v1
  · cases v2
    · cases v3
      · have h4 : v4 = true := by simpa using hv
        subst h4
        clear hv
        go_enter Try.func80, Try.ntmps80
        go_wp2_with (first
          | (go_at_call 87; (with_reducible refine (hall _ _ (H.giveCells m0 (fun _ h => h.elim) 0 rfl)).mono ?_); rintro e w3 ⟨rfl, hb⟩; replace H := H.ext hb; clear hb; dsimp only; (skip))
          | (go_at_call 79; (with_reducible refine (o1 _).mono ?_); rintro e w3 ⟨rfl, hb⟩; replace H := H.ext hb; clear hb; dsimp only; (skip))
          | (go_at_call 79; (with_reducible refine (o2 _).mono ?_); rintro e w3 ⟨rfl, hb⟩; replace H := H.ext hb; clear hb; dsimp only; (skip))
          | (go_at_call 79; (with_reducible refine (o3 _).mono ?_); rintro e w3 ⟨rfl, hb⟩; replace H := H.ext hb; clear hb; dsimp only; (skip))
          | (go_at_call 79; (with_reducible refine (o4 _).mono ?_); rintro e w3 ⟨rfl, hb⟩; replace H := H.ext hb; clear hb; dsimp only; (skip))
          | (guard_target =~ wpList _ _ _ (_ :: _) _ _; (first | (guard_target =~ wpList _ _ _ (Oper.mk _ (.load _ _) _ _ _ _ :: _) _ _; refine BigFrame.wpList_want rfl (fun K hK => ?_); (refine o_loadNC (row := ?_) rfl rfl H ?_ ?_ ?_ (hK _ _ ?_); rotate_left 1; (repeat first | exact .head _ | apply List.Mem.tail); (focus (intro _; simp; done)); (focus (intro _; simp; done))); clear hK K) | ((first | (guard_target =~ wpList _ _ _ (Oper.mk _ (.box _ _) _ _ _ _ :: _) _ _; refine BigFrame.wpList_want rfl (fun K hK => ?_); refine o_box rfl H rfl (fun w3 b2 he H2 => hK _ _ ?_)) | (guard_target =~ wpList _ _ _ (Oper.mk _ (.buildSlice _ _ _) _ _ _ _ :: _) _ _; refine BigFrame.wpList_want rfl (fun K hK => ?_); refine o_buildSlice (C := ?_) (E := ?_) rfl rfl H ?_ rfl (fun w3 b2 he H2 => hK _ _ ?_); rotate_left 2; (focus (intro _; simp [go_sem, Instr.buildSlice]; with_reducible exact rfl)))); clear hK K he; clear H; (try clear w2); revert w3; intro w2 H; simp [Act.eval, Value.cells, setL, List.getD] at H)); simp only [Act.put, List.setIfInBounds_toArray, List.set_cons_succ, List.set_cons_zero]))
        go_ret
        exact ⟨rfl, H.below⟩
      · clear hv
        go_enter Try.func80, Try.ntmps80
        go_wp2_with (first
          | go_big_skip
          | (go_at_call 87; (with_reducible refine (hall _ _ (H.giveCells m0 (fun _ h => h.elim) 0 rfl)).mono ?_); rintro e w3 ⟨rfl, hb⟩; replace H := H.ext hb; clear hb; dsimp only; (skip))
          | (go_at_call 79; (with_reducible refine (o1 _).mono ?_); rintro e w3 ⟨rfl, hb⟩; replace H := H.ext hb; clear hb; dsimp only; (skip))
          | (go_at_call 79; (with_reducible refine (o2 _).mono ?_); rintro e w3 ⟨rfl, hb⟩; replace H := H.ext hb; clear hb; dsimp only; (skip))
          | (go_at_call 79; (with_reducible refine (o3 _).mono ?_); rintro e w3 ⟨rfl, hb⟩; replace H := H.ext hb; clear hb; dsimp only; (skip))
          | (guard_target =~ wpList _ _ _ (_ :: _) _ _; (first | (guard_target =~ wpList _ _ _ (Oper.mk _ (.load _ _) _ _ _ _ :: _) _ _; refine BigFrame.wpList_want rfl (fun K hK => ?_); (refine o_loadNC (row := ?_) rfl rfl H ?_ ?_ ?_ (hK _ _ ?_); rotate_left 1; (repeat first | exact .head _ | apply List.Mem.tail); (focus (intro _; simp; done)); (focus (intro _; simp; done))); clear hK K) | ((first | (guard_target =~ wpList _ _ _ (Oper.mk _ (.box _ _) _ _ _ _ :: _) _ _; refine BigFrame.wpList_want rfl (fun K hK => ?_); refine o_box rfl H rfl (fun w3 b2 he H2 => hK _ _ ?_)) | (guard_target =~ wpList _ _ _ (Oper.mk _ (.buildSlice _ _ _) _ _ _ _ :: _) _ _; refine BigFrame.wpList_want rfl (fun K hK => ?_); refine o_buildSlice (C := ?_) (E := ?_) rfl rfl H ?_ rfl (fun w3 b2 he H2 => hK _ _ ?_); rotate_left 2; (focus (intro _; simp [go_sem, Instr.buildSlice]; with_reducible exact rfl)))); clear hK K he; clear H; (try clear w2); revert w3; intro w2 H; simp [Act.eval, Value.cells, setL, List.getD] at H)); simp only [Act.put, List.setIfInBounds_toArray, List.set_cons_succ, List.set_cons_zero]))
        go_ret
        exact ⟨rfl, H.below⟩
    · clear hv
      go_enter Try.func80, Try.ntmps80
      go_wp2_with (first
        | go_big_skip
        | (go_at_call 87; (with_reducible refine (hall _ _ (H.giveCells m0 (fun _ h => h.elim) 0 rfl)).mono ?_); rintro e w3 ⟨rfl, hb⟩; replace H := H.ext hb; clear hb; dsimp only; (skip))
        | (go_at_call 79; (with_reducible refine (o1 _).mono ?_); rintro e w3 ⟨rfl, hb⟩; replace H := H.ext hb; clear hb; dsimp only; (skip))
        | (go_at_call 79; (with_reducible refine (o2 _).mono ?_); rintro e w3 ⟨rfl, hb⟩; replace H := H.ext hb; clear hb; dsimp only; (skip))
        | (guard_target =~ wpList _ _ _ (_ :: _) _ _; (first | (guard_target =~ wpList _ _ _ (Oper.mk _ (.load _ _) _ _ _ _ :: _) _ _; refine BigFrame.wpList_want rfl (fun K hK => ?_); (refine o_loadNC (row := ?_) rfl rfl H ?_ ?_ ?_ (hK _ _ ?_); rotate_left 1; (repeat first | exact .head _ | apply List.Mem.tail); (focus (intro _; simp; done)); (focus (intro _; simp; done))); clear hK K) | ((first | (guard_target =~ wpList _ _ _ (Oper.mk _ (.box _ _) _ _ _ _ :: _) _ _; refine BigFrame.wpList_want rfl (fun K hK => ?_); refine o_box rfl H rfl (fun w3 b2 he H2 => hK _ _ ?_)) | (guard_target =~ wpList _ _ _ (Oper.mk _ (.buildSlice _ _ _) _ _ _ _ :: _) _ _; refine BigFrame.wpList_want rfl (fun K hK => ?_); refine o_buildSlice (C := ?_) (E := ?_) rfl rfl H ?_ rfl (fun w3 b2 he H2 => hK _ _ ?_); rotate_left 2; (focus (intro _; simp [go_sem, Instr.buildSlice]; with_reducible exact rfl)))); clear hK K he; clear H; (try clear w2); revert w3; intro w2 H; simp [Act.eval, Value.cells, setL, List.getD] at H)); simp only [Act.put, List.setIfInBounds_toArray, List.set_cons_succ, List.set_cons_zero]))
      go_ret
      exact ⟨rfl, H.below⟩
  · clear hv
    go_enter Try.func80, Try.ntmps80
    go_wp2_with (first
      | go_big_skip
      | (go_at_call 87; (with_reducible refine (hall _ _ (H.giveCells m0 (fun _ h => h.elim) 0 rfl)).mono ?_); rintro e w3 ⟨rfl, hb⟩; replace H := H.ext hb; clear hb; dsimp only; (skip))
      | (go_at_call 79; (with_reducible refine (o1 _).mono ?_); rintro e w3 ⟨rfl, hb⟩; replace H := H.ext hb; clear hb; dsimp only; (skip))
      | (guard_target =~ wpList _ _ _ (_ :: _) _ _; (first | (guard_target =~ wpList _ _ _ (Oper.mk _ (.load _ _) _ _ _ _ :: _) _ _; refine BigFrame.wpList_want rfl (fun K hK => ?_); (refine o_loadNC (row := ?_) rfl rfl H ?_ ?_ ?_ (hK _ _ ?_); rotate_left 1; (repeat first | exact .head _ | apply List.Mem.tail); (focus (intro _; simp; done)); (focus (intro _; simp; done))); clear hK K) | ((first | (guard_target =~ wpList _ _ _ (Oper.mk _ (.box _ _) _ _ _ _ :: _) _ _; refine BigFrame.wpList_want rfl (fun K hK => ?_); refine o_box rfl H rfl (fun w3 b2 he H2 => hK _ _ ?_)) | (guard_target =~ wpList _ _ _ (Oper.mk _ (.buildSlice _ _ _) _ _ _ _ :: _) _ _; refine BigFrame.wpList_want rfl (fun K hK => ?_); refine o_buildSlice (C := ?_) (E := ?_) rfl rfl H ?_ rfl (fun w3 b2 he H2 => hK _ _ ?_); rotate_left 2; (focus (intro _; simp [go_sem, Instr.buildSlice]; with_reducible exact rfl)))); clear hK K he; clear H; (try clear w2); revert w3; intro w2 H; simp [Act.eval, Value.cells, setL, List.getD] at H)); simp only [Act.put, List.setIfInBounds_toArray, List.set_cons_succ, List.set_cons_zero]))
    go_ret
    exact ⟨rfl, H.below⟩
set_option maxRecDepth 100000 in
set_option maxHeartbeats 8000000 in
theorem meet_off (ax ay bx b_y cx cy dx dy : Int) (ia : inB ⟨ax, ay⟩ = true) (ib : inB ⟨bx, b_y⟩ = true) (ic : inB ⟨cx, cy⟩ = true) (id_ : inB ⟨dx, dy⟩ = true)
    (n1 : decide ((⟨ax, ay⟩ : Pt) = ⟨bx, b_y⟩) = false) (n2 : decide ((⟨cx, cy⟩ : Pt) = ⟨dx, dy⟩) = false) (hv : (onL ⟨ax, ay⟩ ⟨cx, cy⟩ ⟨dx, dy⟩ || (onL ⟨bx, b_y⟩ ⟨cx, cy⟩ ⟨dx, dy⟩ || (onL ⟨cx, cy⟩ ⟨ax, ay⟩ ⟨bx, b_y⟩ || onL ⟨dx, dy⟩ ⟨ax, ay⟩ ⟨bx, b_y⟩))) = false) (w : World) :
    Calls Try.prog 80 #[pV ax ay, pV bx b_y, pV cx cy, pV dx dy] w fun e w' => e = .returned (.bool (meetL ⟨ax, ay⟩ ⟨bx, b_y⟩ ⟨cx, cy⟩ ⟨dx, dy⟩)) ∧ Below w.heap.size w w' := by
  have H := Own.start w
  have hall := all4 ax ay bx b_y cx cy dx dy
  rw [show (inB ⟨ax, ay⟩ && (inB ⟨bx, b_y⟩ && (inB ⟨cx, cy⟩ && inB ⟨dx, dy⟩))) = true by rw [ia, ib, ic, id_]; rfl] at hall
  have e1 := eq_pt ax ay bx b_y
  have e2 := eq_pt cx cy dx dy
  rw [← pt_eq] at e1 e2
  rw [n1] at e1
  rw [n2] at e2
  have o1 := on_any ax ay cx cy dx dy
  have o2 := on_any bx b_y cx cy dx dy
  have o3 := on_any cx cy ax ay bx b_y
  have o4 := on_any dx dy ax ay bx b_y
  rw [on_in ia ic id_] at o1
  rw [on_in ib ic id_] at o2
  rw [on_in ic ia ib] at o3
  rw [on_in id_ ia ib] at o4
  have e3 := eq_pt ax ay cx cy
  have e4 := eq_pt bx b_y dx dy
  have e5 := eq_pt ax ay dx dy
  have e6 := eq_pt bx b_y cx cy
  rw [← pt_eq] at e3 e4 e5 e6
  have t1 := turn_any ax ay bx b_y cx cy (in_of ia) (in_of ib) (in_of ic)
  have t2 := turn_any ax ay bx b_y dx dy (in_of ia) (in_of ib) (in_of id_)
  have t3 := turn_any cx cy dx dy ax ay (in_of ic) (in_of id_) (in_of ia)
  have t4 := turn_any cx cy dx dy bx b_y (in_of ic) (in_of id_) (in_of ib)
  have m1 := mul_01 (turn_01 ⟨ax, ay⟩ ⟨bx, b_y⟩ ⟨cx, cy⟩) (turn_01 ⟨ax, ay⟩ ⟨bx, b_y⟩ ⟨dx, dy⟩)
  have m2 := mul_01 (turn_01 ⟨cx, cy⟩ ⟨dx, dy⟩ ⟨ax, ay⟩) (turn_01 ⟨cx, cy⟩ ⟨dx, dy⟩ ⟨bx, b_y⟩)
  rw [show meetL ⟨ax, ay⟩ ⟨bx, b_y⟩ ⟨cx, cy⟩ ⟨dx, dy⟩ = (((decide ((⟨ax, ay⟩ : Pt) = ⟨cx, cy⟩) && decide ((⟨bx, b_y⟩ : Pt) = ⟨dx, dy⟩)) || (decide ((⟨ax, ay⟩ : Pt) = ⟨dx, dy⟩) && decide ((⟨bx, b_y⟩ : Pt) = ⟨cx, cy⟩))) ||
    (decide (turnZ ⟨ax, ay⟩ ⟨bx, b_y⟩ ⟨cx, cy⟩ * turnZ ⟨ax, ay⟩ ⟨bx, b_y⟩ ⟨dx, dy⟩ < 0) && decide (turnZ ⟨cx, cy⟩ ⟨dx, dy⟩ ⟨ax, ay⟩ * turnZ ⟨cx, cy⟩ ⟨dx, dy⟩ ⟨bx, b_y⟩ < 0))) by unfold meetL; rw [hv]; rfl]
  simp only [Bool.or_eq_false_iff] at hv
  obtain ⟨v1, v2, v3, v4⟩ := hv
  rw [v1] at o1
  rw [v2] at o2
  rw [v3] at o3
  rw [v4] at o4
  clear v1 v2 v3 v4
  clear ia ib ic id_ n1 n2
  generalize decide ((⟨ax, ay⟩ : Pt) = ⟨cx, cy⟩) = u1 at e3 ⊢
  generalize decide ((⟨bx, b_y⟩ : Pt) = ⟨dx, dy⟩) = u2 at e4 ⊢
  generalize decide ((⟨ax, ay⟩ : Pt) = ⟨dx, dy⟩) = u3 at e5 ⊢
  generalize decide ((⟨bx, b_y⟩ : Pt) = ⟨cx, cy⟩) = u4 at e6 ⊢
  generalize turnZ ⟨ax, ay⟩ ⟨bx, b_y⟩ ⟨cx, cy⟩ = z1 at t1 m1 ⊢
  generalize turnZ ⟨ax, ay⟩ ⟨bx, b_y⟩ ⟨dx, dy⟩ = z2 at t2 m1 ⊢
  generalize turnZ ⟨cx, cy⟩ ⟨dx, dy⟩ ⟨ax, ay⟩ = z3 at t3 m2 ⊢
  generalize turnZ ⟨cx, cy⟩ ⟨dx, dy⟩ ⟨bx, b_y⟩ = z4 at t4 m2 ⊢
  obtain ⟨m1, m1'⟩ := m1
  obtain ⟨m2, m2'⟩ := m2
  obtain ⟨v, hv⟩ : ∃ v, (((u1 && u2) || (u3 && u4)) || (decide (z1 * z2 < 0) && decide (z3 * z4 < 0))) = v := ⟨_, rfl⟩
  rw [hv]
  have HV := Lib.hid hv
  clear hv
  by_cases h1 : z1 * z2 < 0
  · have d1 : decide (z1 * z2 < 0) = true := by simpa using h1
    rw [d1, Bool.true_and] at HV
    clear h1
    go_enter Try.func80, Try.ntmps80
    go_wp2_with (first
      | go_big_skip
      | (guard_target =~ Code.wp _ (Code.region 7 _ true) _ _ _; refine region_tree0 7 (G := True) (.q 0 (.q 1 (.q 2 (.q 4 (.q 5 (.q 6 (.e 3 (.e 7 (.q 8 (.q 9 (.q 10 (.q 11 (.q 12 (.q 13 (.q 15 (.q 16 (.q 17 (.e 14 (.e 18 (.q 19 (.q 20 (.q 21 (.q 22 .nil))))))))))))))))))))))) (by kernel_rfl) (by intro c a d v w h; cases d <;> exact h) (by kernel_rfl) H ⟨trivial⟩ (fun _ w3 H2 => ?_); (clear H; (try clear w2); revert w3; intro w2 H))
      | (go_at_call 87; (with_reducible refine (hall _ _ (H.giveCells m0 (fun _ h => h.elim) 0 rfl)).mono ?_); rintro e w3 ⟨rfl, hb⟩; replace H := H.ext hb; clear hb; dsimp only; (skip))
      | (go_at_call 79; (with_reducible refine (o1 _).mono ?_); rintro e w3 ⟨rfl, hb⟩; replace H := H.ext hb; clear hb; dsimp only; (skip))
      | (go_at_call 79; (with_reducible refine (o2 _).mono ?_); rintro e w3 ⟨rfl, hb⟩; replace H := H.ext hb; clear hb; dsimp only; (skip))
      | (go_at_call 79; (with_reducible refine (o3 _).mono ?_); rintro e w3 ⟨rfl, hb⟩; replace H := H.ext hb; clear hb; dsimp only; (skip))
      | (go_at_call 79; (with_reducible refine (o4 _).mono ?_); rintro e w3 ⟨rfl, hb⟩; replace H := H.ext hb; clear hb; dsimp only; (skip))
      | (go_at_call 88; (with_reducible refine (t1 _).mono ?_); rintro e w3 ⟨rfl, hb⟩; replace H := H.ext hb; clear hb; dsimp only; (refine hK _ _ ⟨_, H, by repeat first | exact .here | apply Suf.there⟩ ?_; clear hK K; (try simp only [Act.put, List.setIfInBounds_toArray, List.set_cons_succ, List.set_cons_zero])))
      | (go_at_call 88; (with_reducible refine (t2 _).mono ?_); rintro e w3 ⟨rfl, hb⟩; replace H := H.ext hb; clear hb; dsimp only; (refine hK _ _ ⟨_, H, by repeat first | exact .here | apply Suf.there⟩ ?_; clear hK K; (try simp only [Act.put, List.setIfInBounds_toArray, List.set_cons_succ, List.set_cons_zero])))
      | (go_at_call 88; (with_reducible refine (t3 _).mono ?_); rintro e w3 ⟨rfl, hb⟩; replace H := H.ext hb; clear hb; dsimp only; (refine hK _ _ ⟨_, H, by repeat first | exact .here | apply Suf.there⟩ ?_; clear hK K; (try simp only [Act.put, List.setIfInBounds_toArray, List.set_cons_succ, List.set_cons_zero])))
      | (go_at_call 88; (with_reducible refine (t4 _).mono ?_); rintro e w3 ⟨rfl, hb⟩; replace H := H.ext hb; clear hb; dsimp only; (refine hK _ _ ⟨_, H, by repeat first | exact .here | apply Suf.there⟩ ?_; clear hK K; (try simp only [Act.put, List.setIfInBounds_toArray, List.set_cons_succ, List.set_cons_zero])))
      | (guard_target =~ wpList _ _ _ (_ :: _) _ _; (first | (guard_target =~ wpList _ _ _ (Oper.mk _ (.load _ _) _ _ _ _ :: _) _ _; refine BigFrame.wpList_want rfl (fun K hK => ?_); (refine o_loadNC (row := ?_) rfl rfl H ?_ ?_ ?_ (hK _ _ ?_); rotate_left 1; (repeat first | exact .head _ | apply List.Mem.tail); (focus (intro _; simp; done)); (focus (intro _; simp; done))); clear hK K) | ((first | (guard_target =~ wpList _ _ _ (Oper.mk _ (.box _ _) _ _ _ _ :: _) _ _; refine BigFrame.wpList_want rfl (fun K hK => ?_); refine o_box rfl H rfl (fun w3 b2 he H2 => hK _ _ ?_)) | (guard_target =~ wpList _ _ _ (Oper.mk _ (.buildSlice _ _ _) _ _ _ _ :: _) _ _; refine BigFrame.wpList_want rfl (fun K hK => ?_); refine o_buildSlice (C := ?_) (E := ?_) rfl rfl H ?_ rfl (fun w3 b2 he H2 => hK _ _ ?_); rotate_left 2; (focus (intro _; simp [go_sem, Instr.buildSlice]; with_reducible exact rfl)))); clear hK K he; clear H; (try clear w2); revert w3; intro w2 H; simp [Act.eval, Value.cells, setL, List.getD] at H)); simp only [Act.put, List.setIfInBounds_toArray, List.set_cons_succ, List.set_cons_zero])
      | (guard_target =~ wpTree _ _ _ _ _ _ _; first | (guard_target =~ wpTree _ _ _ (Tr.q _ _) _ _ _; first | (refine tree_quiet ⟨_, H, by repeat first | exact .here | apply Suf.there⟩ rfl rfl rfl (fun K hK => ?_); simp only [List.getElem_toArray, List.getElem_cons_succ, List.getElem_cons_zero]; first | (guard_target =~ Oper.quiet _ (Oper.mk _ (.load _ _) _ _ _ _) _ _ _; (refine q_loadNC (row := ?_) rfl rfl ?_ ?_ ?_ (hK _ ?_); rotate_left 1; (repeat first | exact .head _ | apply List.Mem.tail); (focus (intro _; simp; done)); (focus (intro _; simp; done))); clear hK K; simp only [Act.put, List.setIfInBounds_toArray, List.set_cons_succ, List.set_cons_zero]) | (go_big_quiet_op; (try refine ⟨_, fun _ _ => rfl, ?_⟩); refine hK _ ?_; clear hK K)) | (refine tree_skip ⟨_, H, by repeat first | exact .here | apply Suf.there⟩ rfl rfl ?_; simp only [List.getElem_toArray, List.getElem_cons_succ, List.getElem_cons_zero, Act.put, List.setIfInBounds_toArray, List.set_cons_succ, List.set_cons_zero])) | (guard_target =~ wpTree _ _ _ (Tr.both _ _) _ _ _; refine tree_both ?_ ?_) | (guard_target =~ wpTree _ _ _ (Tr.e _ _) _ _ _; first | (refine tree_one rfl rfl (fun K hK => ?_); simp only [List.getElem_toArray, List.getElem_cons_succ, List.getElem_cons_zero]; first | ((first | fail); simp only [Act.put, List.setIfInBounds_toArray, List.set_cons_succ, List.set_cons_zero]) | (go_big_op; (skip))) | (refine tree_one_skip ⟨_, H, by repeat first | exact .here | apply Suf.there⟩ rfl rfl ?_; simp only [List.getElem_toArray, List.getElem_cons_succ, List.getElem_cons_zero, Act.put, List.setIfInBounds_toArray, List.set_cons_succ, List.set_cons_zero])) | (guard_target =~ wpTree _ _ _ Tr.nil _ _ _; refine tree_nil ?_)))
    all_goals
      go_ret
      exact ⟨ret_b (by rw [← HV.out]; simp [*]), H.below⟩
  · have d1 : decide (z1 * z2 < 0) = false := by simpa using h1
    rw [d1, Bool.false_and] at HV
    clear h1
    go_enter Try.func80, Try.ntmps80
    go_wp2_with (first
      | go_big_skip
      | (guard_target =~ Code.wp _ (Code.region 7 _ true) _ _ _; refine region_tree0 7 (G := True) (.q 0 (.q 1 (.q 2 (.q 4 (.q 5 (.q 6 (.e 3 (.e 7 (.q 8 (.q 9 (.q 10 (.q 11 (.q 12 (.q 13 (.q 15 (.q 16 (.q 17 (.e 14 (.e 18 (.q 19 (.q 20 (.q 21 (.q 22 .nil))))))))))))))))))))))) (by kernel_rfl) (by intro c a d v w h; cases d <;> exact h) (by kernel_rfl) H ⟨trivial⟩ (fun _ w3 H2 => ?_); (clear H; (try clear w2); revert w3; intro w2 H))
      | (go_at_call 87; (with_reducible refine (hall _ _ (H.giveCells m0 (fun _ h => h.elim) 0 rfl)).mono ?_); rintro e w3 ⟨rfl, hb⟩; replace H := H.ext hb; clear hb; dsimp only; (skip))
      | (go_at_call 79; (with_reducible refine (o1 _).mono ?_); rintro e w3 ⟨rfl, hb⟩; replace H := H.ext hb; clear hb; dsimp only; (skip))
      | (go_at_call 79; (with_reducible refine (o2 _).mono ?_); rintro e w3 ⟨rfl, hb⟩; replace H := H.ext hb; clear hb; dsimp only; (skip))
      | (go_at_call 79; (with_reducible refine (o3 _).mono ?_); rintro e w3 ⟨rfl, hb⟩; replace H := H.ext hb; clear hb; dsimp only; (skip))
      | (go_at_call 79; (with_reducible refine (o4 _).mono ?_); rintro e w3 ⟨rfl, hb⟩; replace H := H.ext hb; clear hb; dsimp only; (skip))
      | (go_at_call 88; (with_reducible refine (t1 _).mono ?_); rintro e w3 ⟨rfl, hb⟩; replace H := H.ext hb; clear hb; dsimp only; (refine hK _ _ ⟨_, H, by repeat first | exact .here | apply Suf.there⟩ ?_; clear hK K; (try simp only [Act.put, List.setIfInBounds_toArray, List.set_cons_succ, List.set_cons_zero])))
      | (go_at_call 88; (with_reducible refine (t2 _).mono ?_); rintro e w3 ⟨rfl, hb⟩; replace H := H.ext hb; clear hb; dsimp only; (refine hK _ _ ⟨_, H, by repeat first | exact .here | apply Suf.there⟩ ?_; clear hK K; (try simp only [Act.put, List.setIfInBounds_toArray, List.set_cons_succ, List.set_cons_zero])))
      | (guard_target =~ wpList _ _ _ (_ :: _) _ _; (first | (guard_target =~ wpList _ _ _ (Oper.mk _ (.load _ _) _ _ _ _ :: _) _ _; refine BigFrame.wpList_want rfl (fun K hK => ?_); (refine o_loadNC (row := ?_) rfl rfl H ?_ ?_ ?_ (hK _ _ ?_); rotate_left 1; (repeat first | exact .head _ | apply List.Mem.tail); (focus (intro _; simp; done)); (focus (intro _; simp; done))); clear hK K) | ((first | (guard_target =~ wpList _ _ _ (Oper.mk _ (.box _ _) _ _ _ _ :: _) _ _; refine BigFrame.wpList_want rfl (fun K hK => ?_); refine o_box rfl H rfl (fun w3 b2 he H2 => hK _ _ ?_)) | (guard_target =~ wpList _ _ _ (Oper.mk _ (.buildSlice _ _ _) _ _ _ _ :: _) _ _; refine BigFrame.wpList_want rfl (fun K hK => ?_); refine o_buildSlice (C := ?_) (E := ?_) rfl rfl H ?_ rfl (fun w3 b2 he H2 => hK _ _ ?_); rotate_left 2; (focus (intro _; simp [go_sem, Instr.buildSlice]; with_reducible exact rfl)))); clear hK K he; clear H; (try clear w2); revert w3; intro w2 H; simp [Act.eval, Value.cells, setL, List.getD] at H)); simp only [Act.put, List.setIfInBounds_toArray, List.set_cons_succ, List.set_cons_zero])
      | (guard_target =~ wpTree _ _ _ _ _ _ _; first | (guard_target =~ wpTree _ _ _ (Tr.q _ _) _ _ _; first | (refine tree_quiet ⟨_, H, by repeat first | exact .here | apply Suf.there⟩ rfl rfl rfl (fun K hK => ?_); simp only [List.getElem_toArray, List.getElem_cons_succ, List.getElem_cons_zero]; first | (guard_target =~ Oper.quiet _ (Oper.mk _ (.load _ _) _ _ _ _) _ _ _; (refine q_loadNC (row := ?_) rfl rfl ?_ ?_ ?_ (hK _ ?_); rotate_left 1; (repeat first | exact .head _ | apply List.Mem.tail); (focus (intro _; simp; done)); (focus (intro _; simp; done))); clear hK K; simp only [Act.put, List.setIfInBounds_toArray, List.set_cons_succ, List.set_cons_zero]) | (go_big_quiet_op; (try refine ⟨_, fun _ _ => rfl, ?_⟩); refine hK _ ?_; clear hK K)) | (refine tree_skip ⟨_, H, by repeat first | exact .here | apply Suf.there⟩ rfl rfl ?_; simp only [List.getElem_toArray, List.getElem_cons_succ, List.getElem_cons_zero, Act.put, List.setIfInBounds_toArray, List.set_cons_succ, List.set_cons_zero])) | (guard_target =~ wpTree _ _ _ (Tr.both _ _) _ _ _; refine tree_both ?_ ?_) | (guard_target =~ wpTree _ _ _ (Tr.e _ _) _ _ _; first | (refine tree_one rfl rfl (fun K hK => ?_); simp only [List.getElem_toArray, List.getElem_cons_succ, List.getElem_cons_zero]; first | ((first | fail); simp only [Act.put, List.setIfInBounds_toArray, List.set_cons_succ, List.set_cons_zero]) | (go_big_op; (skip))) | (refine tree_one_skip ⟨_, H, by repeat first | exact .here | apply Suf.there⟩ rfl rfl ?_; simp only [List.getElem_toArray, List.getElem_cons_succ, List.getElem_cons_zero, Act.put, List.setIfInBounds_toArray, List.set_cons_succ, List.set_cons_zero])) | (guard_target =~ wpTree _ _ _ Tr.nil _ _ _; refine tree_nil ?_)))
    all_goals
      go_ret
      exact ⟨ret_b (by rw [← HV.out]; simp [*]), H.below⟩
theorem meet_any (ax ay bx b_y cx cy dx dy : Int) (w : World) :
    Calls Try.prog 80 #[pV ax ay, pV bx b_y, pV cx cy, pV dx dy] w fun e w' => e = .returned (.bool (meetB ⟨ax, ay⟩ ⟨bx, b_y⟩ ⟨cx, cy⟩ ⟨dx, dy⟩)) ∧ Below w.heap.size w w' := by
  unfold meetB
  by_cases h : ((inB ⟨ax, ay⟩ && (inB ⟨bx, b_y⟩ && (inB ⟨cx, cy⟩ && inB ⟨dx, dy⟩))) && (!decide ((⟨ax, ay⟩ : Pt) = ⟨bx, b_y⟩) && !decide ((⟨cx, cy⟩ : Pt) = ⟨dx, dy⟩))) = true
  · rw [h, Bool.true_and]
    simp only [Bool.and_eq_true, Bool.not_eq_true'] at h
    obtain ⟨⟨ia, ib, ic, id_⟩, n1, n2⟩ := h
    by_cases hv : (onL ⟨ax, ay⟩ ⟨cx, cy⟩ ⟨dx, dy⟩ || (onL ⟨bx, b_y⟩ ⟨cx, cy⟩ ⟨dx, dy⟩ || (onL ⟨cx, cy⟩ ⟨ax, ay⟩ ⟨bx, b_y⟩ || onL ⟨dx, dy⟩ ⟨ax, ay⟩ ⟨bx, b_y⟩))) = true
    · exact meet_on ax ay bx b_y cx cy dx dy ia ib ic id_ n1 n2 hv w
    · exact meet_off ax ay bx b_y cx cy dx dy ia ib ic id_ n1 n2 (by simpa using hv) w
  · rw [Bool.not_eq_true] at h
    rw [h, Bool.false_and]
    exact meet_out ax ay bx b_y cx cy dx dy h w
end Go.Proofs.Ytlhmjhildlnokaa
