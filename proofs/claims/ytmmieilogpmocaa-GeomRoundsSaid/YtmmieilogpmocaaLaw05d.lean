/-
  The walks of the statements of layer 5: directions stand in one order.
-/
import Derived.Test.YtmmieilogpmocaaLaw05a
namespace Go.Proofs.Ytmmieilogpmocaa
set_option linter.unusedVariables false
set_option linter.unusedSimpArgs false
open Go.RowKit

theorem turnB_pm (a b c : Pt) : -1 ≤ turnB a b c ∧ turnB a b c ≤ 1 := by
  unfold turnB
  have := turn_pm a b c
  split <;> omega
set_option maxRecDepth 200000 in
set_option maxHeartbeats 16000000 in
theorem law_GeomRounds (ox oy ax ay bx b_y cx cy : Int) (w : World) :
    Calls Try.prog 11 #[pV ox oy, pV ax ay, pV bx b_y, pV cx cy] w fun e w' => e = .returned (.bool true) ∧ Below w.heap.size w w' := by
  have H := Own.start w
  have hin := lin4 ox oy ax ay bx b_y cx cy
  have h1 := around_any ox oy ax ay bx b_y
  have h2 := around_any ox oy bx b_y ax ay
  have h3 := around_any ox oy bx b_y cx cy
  have h4 := around_any ox oy ax ay cx cy
  have h5 := geomTurn_any ox oy ax ay bx b_y
  rw [around_anti ⟨ox, oy⟩ ⟨bx, b_y⟩ ⟨ax, ay⟩] at h2
  have n1 := eq_pt ax ay ox oy
  have n2 := eq_pt bx b_y ox oy
  have n3 := eq_pt cx cy ox oy
  obtain ⟨v0, hv0⟩ : ∃ v, (inB ⟨ox, oy⟩ && (inB ⟨ax, ay⟩ && (inB ⟨bx, b_y⟩ && inB ⟨cx, cy⟩))) = v := ⟨_, rfl⟩
  obtain ⟨v1, hv1⟩ : ∃ v, decide ((⟨ax, ay⟩ : Pt) = ⟨ox, oy⟩) = v := ⟨_, rfl⟩
  obtain ⟨v2, hv2⟩ : ∃ v, decide ((⟨bx, b_y⟩ : Pt) = ⟨ox, oy⟩) = v := ⟨_, rfl⟩
  obtain ⟨v3, hv3⟩ : ∃ v, decide ((⟨cx, cy⟩ : Pt) = ⟨ox, oy⟩) = v := ⟨_, rfl⟩
  rw [← pt_eq, hv1] at n1
  rw [← pt_eq, hv2] at n2
  rw [← pt_eq, hv3] at n3
  rw [hv0] at hin
  have key : v0 = true → v1 = false → v2 = false → v3 = false → (aroundZ ⟨ox, oy⟩ ⟨ax, ay⟩ ⟨bx, b_y⟩ = 0 → turnB ⟨ox, oy⟩ ⟨ax, ay⟩ ⟨bx, b_y⟩ = 0) ∧ (aroundZ ⟨ox, oy⟩ ⟨ax, ay⟩ ⟨bx, b_y⟩ ≤ 0 → aroundZ ⟨ox, oy⟩ ⟨bx, b_y⟩ ⟨cx, cy⟩ ≤ 0 → aroundZ ⟨ox, oy⟩ ⟨ax, ay⟩ ⟨cx, cy⟩ ≤ 0) := by
    intro k0 k1 k2 k3
    rw [k0] at hv0; rw [k1] at hv1; rw [k2] at hv2; rw [k3] at hv3
    simp only [Bool.and_eq_true] at hv0
    simp only [decide_eq_false_iff_not] at hv1 hv2 hv3
    obtain ⟨i0, i1, i2, i3⟩ := hv0
    have q1 : (inB ⟨ox, oy⟩ && (inB ⟨ax, ay⟩ && inB ⟨bx, b_y⟩)) = true := by rw [i0, i1, i2]; rfl
    have q2 : (inB ⟨ox, oy⟩ && (inB ⟨bx, b_y⟩ && inB ⟨cx, cy⟩)) = true := by rw [i0, i2, i3]; rfl
    have q3 : (inB ⟨ox, oy⟩ && (inB ⟨ax, ay⟩ && inB ⟨cx, cy⟩)) = true := by rw [i0, i1, i3]; rfl
    refine ⟨fun h => ?_, ?_⟩
    · unfold turnB; rw [if_pos q1]; exact around_zero q1 hv1 hv2 h
    · unfold aroundZ
      rw [if_pos ⟨q1, hv1, hv2⟩, if_pos ⟨q2, hv2, hv3⟩, if_pos ⟨q3, hv1, hv3⟩]
      exact around_trans hv1 hv2 hv3
  have px := around_pm ⟨ox, oy⟩ ⟨ax, ay⟩ ⟨bx, b_y⟩
  have py := around_pm ⟨ox, oy⟩ ⟨bx, b_y⟩ ⟨cx, cy⟩
  have pz := around_pm ⟨ox, oy⟩ ⟨ax, ay⟩ ⟨cx, cy⟩
  have pt := turnB_pm ⟨ox, oy⟩ ⟨ax, ay⟩ ⟨bx, b_y⟩
  generalize aroundZ ⟨ox, oy⟩ ⟨ax, ay⟩ ⟨bx, b_y⟩ = x at h1 h2 key px
  generalize aroundZ ⟨ox, oy⟩ ⟨bx, b_y⟩ ⟨cx, cy⟩ = y at h3 key py
  generalize aroundZ ⟨ox, oy⟩ ⟨ax, ay⟩ ⟨cx, cy⟩ = z at h4 key pz
  generalize turnB ⟨ox, oy⟩ ⟨ax, ay⟩ ⟨bx, b_y⟩ = t at h5 key pt
  clear hv0 hv1 hv2 hv3
  obtain ⟨py1, py2⟩ := py
  obtain ⟨pz1, pz2⟩ := pz
  obtain ⟨pt1, pt2⟩ := pt
  have KEY := Lib.hid key
  clear key
  have px' : x = -1 ∨ x = 0 ∨ x = 1 := by omega
  clear px
  rcases px' with rfl | rfl | rfl
  · rw [show -(-1 : Int) = 1 from rfl] at h2
    cases v0
    · clear KEY
      go_enter Try.func11, Try.ntmps11
      have tk0 : True := trivial
      have tk1 : True := trivial
      have tk2 : True := trivial
      have tk3 : True := trivial
      have tk4 : True := trivial
      have tk5 : True := trivial
      go_wp2_with (first
        | go_big_skip
        | (go_at_call 21; (with_reducible refine (awake5_any _).mono ?_); rintro e w3 ⟨rfl, hb⟩; replace H := H.ext hb; clear hb; dsimp only; (skip))
        | (go_at_call 20; (with_reducible refine (hin _ _ (H.giveCells m0 (fun _ h => h.elim) 0 rfl)).mono ?_); rintro e w3 ⟨rfl, hb⟩; replace H := H.ext hb; clear hb; dsimp only; (skip))
        | (go_at_call 45; (with_reducible refine (h1 _).mono ?_); rintro e w3 ⟨rfl, hb⟩; replace H := H.ext hb; clear hb; dsimp only; (skip))
        | (go_at_call 45; (with_reducible refine (h2 _).mono ?_); rintro e w3 ⟨rfl, hb⟩; replace H := H.ext hb; clear hb; dsimp only; (skip))
        | (guard_target =~ wpList _ _ _ (_ :: _) _ _; (first | (guard_target =~ wpList _ _ _ (Oper.mk _ (.load _ _) _ _ _ _ :: _) _ _; refine BigFrame.wpList_want rfl (fun K hK => ?_); (refine o_loadNC (row := ?_) rfl rfl H ?_ ?_ ?_ (hK _ _ ?_); rotate_left 1; (repeat first | exact .head _ | apply List.Mem.tail); (focus (intro _; simp; done)); (focus (intro _; simp; done))); clear hK K) | ((first | (guard_target =~ wpList _ _ _ (Oper.mk _ (.box _ _) _ _ _ _ :: _) _ _; refine BigFrame.wpList_want rfl (fun K hK => ?_); refine o_box rfl H rfl (fun w3 b2 he H2 => hK _ _ ?_)) | (guard_target =~ wpList _ _ _ (Oper.mk _ (.buildSlice _ _ _) _ _ _ _ :: _) _ _; refine BigFrame.wpList_want rfl (fun K hK => ?_); refine o_buildSlice (C := ?_) (E := ?_) rfl rfl H ?_ rfl (fun w3 b2 he H2 => hK _ _ ?_); rotate_left 2; (focus (intro _; simp [go_sem, Instr.buildSlice]; with_reducible exact rfl)))); clear hK K he; clear H; (try clear w2); revert w3; intro w2 H; simp [Act.eval, Value.cells, setL, List.getD] at H; (first | (clear tk0; rename Nat => c1) | (clear tk1; rename Nat => c2) | (clear tk2; rename Nat => c3) | (clear tk3; rename Nat => c4) | (clear tk4; rename Nat => c5)))); simp only [Act.put, List.setIfInBounds_toArray, List.set_cons_succ, List.set_cons_zero]))
      go_ret
      exact ⟨rfl, H.below⟩
    · cases v1 <;> cases v2 <;> cases v3
      · have k := KEY.out rfl rfl rfl rfl
        have k2 := k.2 (by omega)
        obtain ⟨vy, hvy⟩ : ∃ v, decide (0 < y) = v := ⟨_, rfl⟩
        cases vy
        · have kz : decide (z ≤ 0) = true := decide_eq_true (k2 (by simpa using hvy))
          clear KEY k k2 pz1 pz2 py1 py2
          go_enter Try.func11, Try.ntmps11
          have tk0 : True := trivial
          have tk1 : True := trivial
          have tk2 : True := trivial
          have tk3 : True := trivial
          have tk4 : True := trivial
          have tk5 : True := trivial
          go_wp2_with (first
            | go_big_skip
            | (go_at_call 21; (with_reducible refine (awake5_any _).mono ?_); rintro e w3 ⟨rfl, hb⟩; replace H := H.ext hb; clear hb; dsimp only; (skip))
            | (go_at_call 20; (with_reducible refine (hin _ _ (H.giveCells m0 (fun _ h => h.elim) 0 rfl)).mono ?_); rintro e w3 ⟨rfl, hb⟩; replace H := H.ext hb; clear hb; dsimp only; (skip))
            | (go_at_call 45; (with_reducible refine (h1 _).mono ?_); rintro e w3 ⟨rfl, hb⟩; replace H := H.ext hb; clear hb; dsimp only; (skip))
            | (go_at_call 45; (with_reducible refine (h2 _).mono ?_); rintro e w3 ⟨rfl, hb⟩; replace H := H.ext hb; clear hb; dsimp only; (skip))
            | (go_at_call 45; (with_reducible refine (h3 _).mono ?_); rintro e w3 ⟨rfl, hb⟩; replace H := H.ext hb; clear hb; dsimp only; (skip))
            | (go_at_call 45; (with_reducible refine (h4 _).mono ?_); rintro e w3 ⟨rfl, hb⟩; replace H := H.ext hb; clear hb; dsimp only; (skip))
            | (guard_target =~ wpList _ _ _ (_ :: _) _ _; (first | (guard_target =~ wpList _ _ _ (Oper.mk _ (.load _ _) _ _ _ _ :: _) _ _; refine BigFrame.wpList_want rfl (fun K hK => ?_); (refine o_loadNC (row := ?_) rfl rfl H ?_ ?_ ?_ (hK _ _ ?_); rotate_left 1; (repeat first | exact .head _ | apply List.Mem.tail); (focus (intro _; simp; done)); (focus (intro _; simp; done))); clear hK K) | ((first | (guard_target =~ wpList _ _ _ (Oper.mk _ (.box _ _) _ _ _ _ :: _) _ _; refine BigFrame.wpList_want rfl (fun K hK => ?_); refine o_box rfl H rfl (fun w3 b2 he H2 => hK _ _ ?_)) | (guard_target =~ wpList _ _ _ (Oper.mk _ (.buildSlice _ _ _) _ _ _ _ :: _) _ _; refine BigFrame.wpList_want rfl (fun K hK => ?_); refine o_buildSlice (C := ?_) (E := ?_) rfl rfl H ?_ rfl (fun w3 b2 he H2 => hK _ _ ?_); rotate_left 2; (focus (intro _; simp [go_sem, Instr.buildSlice]; with_reducible exact rfl)))); clear hK K he; clear H; (try clear w2); revert w3; intro w2 H; simp [Act.eval, Value.cells, setL, List.getD] at H; (first | (clear tk0; rename Nat => c1) | (clear tk1; rename Nat => c2) | (clear tk2; rename Nat => c3) | (clear tk3; rename Nat => c4) | (clear tk4; rename Nat => c5)))); simp only [Act.put, List.setIfInBounds_toArray, List.set_cons_succ, List.set_cons_zero]))
          go_ret
          exact ⟨rfl, H.below⟩
        · clear KEY k k2 pz1 pz2 py1 py2
          go_enter Try.func11, Try.ntmps11
          have tk0 : True := trivial
          have tk1 : True := trivial
          have tk2 : True := trivial
          have tk3 : True := trivial
          have tk4 : True := trivial
          have tk5 : True := trivial
          go_wp2_with (first
            | go_big_skip
            | (go_at_call 21; (with_reducible refine (awake5_any _).mono ?_); rintro e w3 ⟨rfl, hb⟩; replace H := H.ext hb; clear hb; dsimp only; (skip))
            | (go_at_call 20; (with_reducible refine (hin _ _ (H.giveCells m0 (fun _ h => h.elim) 0 rfl)).mono ?_); rintro e w3 ⟨rfl, hb⟩; replace H := H.ext hb; clear hb; dsimp only; (skip))
            | (go_at_call 45; (with_reducible refine (h1 _).mono ?_); rintro e w3 ⟨rfl, hb⟩; replace H := H.ext hb; clear hb; dsimp only; (skip))
            | (go_at_call 45; (with_reducible refine (h2 _).mono ?_); rintro e w3 ⟨rfl, hb⟩; replace H := H.ext hb; clear hb; dsimp only; (skip))
            | (go_at_call 45; (with_reducible refine (h3 _).mono ?_); rintro e w3 ⟨rfl, hb⟩; replace H := H.ext hb; clear hb; dsimp only; (skip))
            | (guard_target =~ wpList _ _ _ (_ :: _) _ _; (first | (guard_target =~ wpList _ _ _ (Oper.mk _ (.load _ _) _ _ _ _ :: _) _ _; refine BigFrame.wpList_want rfl (fun K hK => ?_); (refine o_loadNC (row := ?_) rfl rfl H ?_ ?_ ?_ (hK _ _ ?_); rotate_left 1; (repeat first | exact .head _ | apply List.Mem.tail); (focus (intro _; simp; done)); (focus (intro _; simp; done))); clear hK K) | ((first | (guard_target =~ wpList _ _ _ (Oper.mk _ (.box _ _) _ _ _ _ :: _) _ _; refine BigFrame.wpList_want rfl (fun K hK => ?_); refine o_box rfl H rfl (fun w3 b2 he H2 => hK _ _ ?_)) | (guard_target =~ wpList _ _ _ (Oper.mk _ (.buildSlice _ _ _) _ _ _ _ :: _) _ _; refine BigFrame.wpList_want rfl (fun K hK => ?_); refine o_buildSlice (C := ?_) (E := ?_) rfl rfl H ?_ rfl (fun w3 b2 he H2 => hK _ _ ?_); rotate_left 2; (focus (intro _; simp [go_sem, Instr.buildSlice]; with_reducible exact rfl)))); clear hK K he; clear H; (try clear w2); revert w3; intro w2 H; simp [Act.eval, Value.cells, setL, List.getD] at H; (first | (clear tk0; rename Nat => c1) | (clear tk1; rename Nat => c2) | (clear tk2; rename Nat => c3) | (clear tk3; rename Nat => c4) | (clear tk4; rename Nat => c5)))); simp only [Act.put, List.setIfInBounds_toArray, List.set_cons_succ, List.set_cons_zero]))
          go_ret
          exact ⟨rfl, H.below⟩
      all_goals
        clear KEY
        go_enter Try.func11, Try.ntmps11
        have tk0 : True := trivial
        have tk1 : True := trivial
        have tk2 : True := trivial
        have tk3 : True := trivial
        have tk4 : True := trivial
        have tk5 : True := trivial
        go_wp2_with (first
          | go_big_skip
          | (go_at_call 21; (with_reducible refine (awake5_any _).mono ?_); rintro e w3 ⟨rfl, hb⟩; replace H := H.ext hb; clear hb; dsimp only; (skip))
          | (go_at_call 20; (with_reducible refine (hin _ _ (H.giveCells m0 (fun _ h => h.elim) 0 rfl)).mono ?_); rintro e w3 ⟨rfl, hb⟩; replace H := H.ext hb; clear hb; dsimp only; (skip))
          | (go_at_call 45; (with_reducible refine (h1 _).mono ?_); rintro e w3 ⟨rfl, hb⟩; replace H := H.ext hb; clear hb; dsimp only; (skip))
          | (go_at_call 45; (with_reducible refine (h2 _).mono ?_); rintro e w3 ⟨rfl, hb⟩; replace H := H.ext hb; clear hb; dsimp only; (skip))
          | (guard_target =~ wpList _ _ _ (_ :: _) _ _; (first | (guard_target =~ wpList _ _ _ (Oper.mk _ (.load _ _) _ _ _ _ :: _) _ _; refine BigFrame.wpList_want rfl (fun K hK => ?_); (refine o_loadNC (row := ?_) rfl rfl H ?_ ?_ ?_ (hK _ _ ?_); rotate_left 1; (repeat first | exact .head _ | apply List.Mem.tail); (focus (intro _; simp; done)); (focus (intro _; simp; done))); clear hK K) | ((first | (guard_target =~ wpList _ _ _ (Oper.mk _ (.box _ _) _ _ _ _ :: _) _ _; refine BigFrame.wpList_want rfl (fun K hK => ?_); refine o_box rfl H rfl (fun w3 b2 he H2 => hK _ _ ?_)) | (guard_target =~ wpList _ _ _ (Oper.mk _ (.buildSlice _ _ _) _ _ _ _ :: _) _ _; refine BigFrame.wpList_want rfl (fun K hK => ?_); refine o_buildSlice (C := ?_) (E := ?_) rfl rfl H ?_ rfl (fun w3 b2 he H2 => hK _ _ ?_); rotate_left 2; (focus (intro _; simp [go_sem, Instr.buildSlice]; with_reducible exact rfl)))); clear hK K he; clear H; (try clear w2); revert w3; intro w2 H; simp [Act.eval, Value.cells, setL, List.getD] at H; (first | (clear tk0; rename Nat => c1) | (clear tk1; rename Nat => c2) | (clear tk2; rename Nat => c3) | (clear tk3; rename Nat => c4) | (clear tk4; rename Nat => c5)))); simp only [Act.put, List.setIfInBounds_toArray, List.set_cons_succ, List.set_cons_zero]))
        go_ret
        exact ⟨rfl, H.below⟩
  · rw [show -(0 : Int) = 0 from rfl] at h2
    cases v0
    · clear KEY
      go_enter Try.func11, Try.ntmps11
      have tk0 : True := trivial
      have tk1 : True := trivial
      have tk2 : True := trivial
      have tk3 : True := trivial
      have tk4 : True := trivial
      have tk5 : True := trivial
      go_wp2_with (first
        | go_big_skip
        | (go_at_call 21; (with_reducible refine (awake5_any _).mono ?_); rintro e w3 ⟨rfl, hb⟩; replace H := H.ext hb; clear hb; dsimp only; (skip))
        | (go_at_call 20; (with_reducible refine (hin _ _ (H.giveCells m0 (fun _ h => h.elim) 0 rfl)).mono ?_); rintro e w3 ⟨rfl, hb⟩; replace H := H.ext hb; clear hb; dsimp only; (skip))
        | (go_at_call 45; (with_reducible refine (h1 _).mono ?_); rintro e w3 ⟨rfl, hb⟩; replace H := H.ext hb; clear hb; dsimp only; (skip))
        | (go_at_call 45; (with_reducible refine (h2 _).mono ?_); rintro e w3 ⟨rfl, hb⟩; replace H := H.ext hb; clear hb; dsimp only; (skip))
        | (guard_target =~ wpList _ _ _ (_ :: _) _ _; (first | (guard_target =~ wpList _ _ _ (Oper.mk _ (.load _ _) _ _ _ _ :: _) _ _; refine BigFrame.wpList_want rfl (fun K hK => ?_); (refine o_loadNC (row := ?_) rfl rfl H ?_ ?_ ?_ (hK _ _ ?_); rotate_left 1; (repeat first | exact .head _ | apply List.Mem.tail); (focus (intro _; simp; done)); (focus (intro _; simp; done))); clear hK K) | ((first | (guard_target =~ wpList _ _ _ (Oper.mk _ (.box _ _) _ _ _ _ :: _) _ _; refine BigFrame.wpList_want rfl (fun K hK => ?_); refine o_box rfl H rfl (fun w3 b2 he H2 => hK _ _ ?_)) | (guard_target =~ wpList _ _ _ (Oper.mk _ (.buildSlice _ _ _) _ _ _ _ :: _) _ _; refine BigFrame.wpList_want rfl (fun K hK => ?_); refine o_buildSlice (C := ?_) (E := ?_) rfl rfl H ?_ rfl (fun w3 b2 he H2 => hK _ _ ?_); rotate_left 2; (focus (intro _; simp [go_sem, Instr.buildSlice]; with_reducible exact rfl)))); clear hK K he; clear H; (try clear w2); revert w3; intro w2 H; simp [Act.eval, Value.cells, setL, List.getD] at H; (first | (clear tk0; rename Nat => c1) | (clear tk1; rename Nat => c2) | (clear tk2; rename Nat => c3) | (clear tk3; rename Nat => c4) | (clear tk4; rename Nat => c5)))); simp only [Act.put, List.setIfInBounds_toArray, List.set_cons_succ, List.set_cons_zero]))
      go_ret
      exact ⟨rfl, H.below⟩
    · cases v1 <;> cases v2 <;> cases v3
      · have k := KEY.out rfl rfl rfl rfl
        have k1 := k.1 rfl
        subst k1
        have k2 := k.2 (by omega)
        obtain ⟨vy, hvy⟩ : ∃ v, decide (0 < y) = v := ⟨_, rfl⟩
        cases vy
        · have kz : decide (z ≤ 0) = true := decide_eq_true (k2 (by simpa using hvy))
          clear KEY k k2 pz1 pz2 py1 py2
          go_enter Try.func11, Try.ntmps11
          have tk0 : True := trivial
          have tk1 : True := trivial
          have tk2 : True := trivial
          have tk3 : True := trivial
          have tk4 : True := trivial
          have tk5 : True := trivial
          go_wp2_with (first
            | (go_at_call 21; (with_reducible refine (awake5_any _).mono ?_); rintro e w3 ⟨rfl, hb⟩; replace H := H.ext hb; clear hb; dsimp only; (skip))
            | (go_at_call 20; (with_reducible refine (hin _ _ (H.giveCells m0 (fun _ h => h.elim) 0 rfl)).mono ?_); rintro e w3 ⟨rfl, hb⟩; replace H := H.ext hb; clear hb; dsimp only; (skip))
            | (go_at_call 45; (with_reducible refine (h1 _).mono ?_); rintro e w3 ⟨rfl, hb⟩; replace H := H.ext hb; clear hb; dsimp only; (skip))
            | (go_at_call 45; (with_reducible refine (h2 _).mono ?_); rintro e w3 ⟨rfl, hb⟩; replace H := H.ext hb; clear hb; dsimp only; (skip))
            | (go_at_call 45; (with_reducible refine (h3 _).mono ?_); rintro e w3 ⟨rfl, hb⟩; replace H := H.ext hb; clear hb; dsimp only; (skip))
            | (go_at_call 45; (with_reducible refine (h4 _).mono ?_); rintro e w3 ⟨rfl, hb⟩; replace H := H.ext hb; clear hb; dsimp only; (skip))
            | (go_at_call 30; (with_reducible refine (h5 _).mono ?_); rintro e w3 ⟨rfl, hb⟩; replace H := H.ext hb; clear hb; dsimp only; (skip))
            | (guard_target =~ wpList _ _ _ (_ :: _) _ _; (first | (guard_target =~ wpList _ _ _ (Oper.mk _ (.load _ _) _ _ _ _ :: _) _ _; refine BigFrame.wpList_want rfl (fun K hK => ?_); (refine o_loadNC (row := ?_) rfl rfl H ?_ ?_ ?_ (hK _ _ ?_); rotate_left 1; (repeat first | exact .head _ | apply List.Mem.tail); (focus (intro _; simp; done)); (focus (intro _; simp; done))); clear hK K) | ((first | (guard_target =~ wpList _ _ _ (Oper.mk _ (.box _ _) _ _ _ _ :: _) _ _; refine BigFrame.wpList_want rfl (fun K hK => ?_); refine o_box rfl H rfl (fun w3 b2 he H2 => hK _ _ ?_)) | (guard_target =~ wpList _ _ _ (Oper.mk _ (.buildSlice _ _ _) _ _ _ _ :: _) _ _; refine BigFrame.wpList_want rfl (fun K hK => ?_); refine o_buildSlice (C := ?_) (E := ?_) rfl rfl H ?_ rfl (fun w3 b2 he H2 => hK _ _ ?_); rotate_left 2; (focus (intro _; simp [go_sem, Instr.buildSlice]; with_reducible exact rfl)))); clear hK K he; clear H; (try clear w2); revert w3; intro w2 H; simp [Act.eval, Value.cells, setL, List.getD] at H; (first | (clear tk0; rename Nat => c1) | (clear tk1; rename Nat => c2) | (clear tk2; rename Nat => c3) | (clear tk3; rename Nat => c4) | (clear tk4; rename Nat => c5)))); simp only [Act.put, List.setIfInBounds_toArray, List.set_cons_succ, List.set_cons_zero]))
          go_ret
          exact ⟨rfl, H.below⟩
        · clear KEY k k2 pz1 pz2 py1 py2
          go_enter Try.func11, Try.ntmps11
          have tk0 : True := trivial
          have tk1 : True := trivial
          have tk2 : True := trivial
          have tk3 : True := trivial
          have tk4 : True := trivial
          have tk5 : True := trivial
          go_wp2_with (first
            | go_big_skip
            | (go_at_call 21; (with_reducible refine (awake5_any _).mono ?_); rintro e w3 ⟨rfl, hb⟩; replace H := H.ext hb; clear hb; dsimp only; (skip))
            | (go_at_call 20; (with_reducible refine (hin _ _ (H.giveCells m0 (fun _ h => h.elim) 0 rfl)).mono ?_); rintro e w3 ⟨rfl, hb⟩; replace H := H.ext hb; clear hb; dsimp only; (skip))
            | (go_at_call 45; (with_reducible refine (h1 _).mono ?_); rintro e w3 ⟨rfl, hb⟩; replace H := H.ext hb; clear hb; dsimp only; (skip))
            | (go_at_call 45; (with_reducible refine (h2 _).mono ?_); rintro e w3 ⟨rfl, hb⟩; replace H := H.ext hb; clear hb; dsimp only; (skip))
            | (go_at_call 45; (with_reducible refine (h3 _).mono ?_); rintro e w3 ⟨rfl, hb⟩; replace H := H.ext hb; clear hb; dsimp only; (skip))
            | (go_at_call 30; (with_reducible refine (h5 _).mono ?_); rintro e w3 ⟨rfl, hb⟩; replace H := H.ext hb; clear hb; dsimp only; (skip))
            | (guard_target =~ wpList _ _ _ (_ :: _) _ _; (first | (guard_target =~ wpList _ _ _ (Oper.mk _ (.load _ _) _ _ _ _ :: _) _ _; refine BigFrame.wpList_want rfl (fun K hK => ?_); (refine o_loadNC (row := ?_) rfl rfl H ?_ ?_ ?_ (hK _ _ ?_); rotate_left 1; (repeat first | exact .head _ | apply List.Mem.tail); (focus (intro _; simp; done)); (focus (intro _; simp; done))); clear hK K) | ((first | (guard_target =~ wpList _ _ _ (Oper.mk _ (.box _ _) _ _ _ _ :: _) _ _; refine BigFrame.wpList_want rfl (fun K hK => ?_); refine o_box rfl H rfl (fun w3 b2 he H2 => hK _ _ ?_)) | (guard_target =~ wpList _ _ _ (Oper.mk _ (.buildSlice _ _ _) _ _ _ _ :: _) _ _; refine BigFrame.wpList_want rfl (fun K hK => ?_); refine o_buildSlice (C := ?_) (E := ?_) rfl rfl H ?_ rfl (fun w3 b2 he H2 => hK _ _ ?_); rotate_left 2; (focus (intro _; simp [go_sem, Instr.buildSlice]; with_reducible exact rfl)))); clear hK K he; clear H; (try clear w2); revert w3; intro w2 H; simp [Act.eval, Value.cells, setL, List.getD] at H; (first | (clear tk0; rename Nat => c1) | (clear tk1; rename Nat => c2) | (clear tk2; rename Nat => c3) | (clear tk3; rename Nat => c4) | (clear tk4; rename Nat => c5)))); simp only [Act.put, List.setIfInBounds_toArray, List.set_cons_succ, List.set_cons_zero]))
          go_ret
          exact ⟨rfl, H.below⟩
      all_goals
        clear KEY
        go_enter Try.func11, Try.ntmps11
        have tk0 : True := trivial
        have tk1 : True := trivial
        have tk2 : True := trivial
        have tk3 : True := trivial
        have tk4 : True := trivial
        have tk5 : True := trivial
        go_wp2_with (first
          | go_big_skip
          | (go_at_call 21; (with_reducible refine (awake5_any _).mono ?_); rintro e w3 ⟨rfl, hb⟩; replace H := H.ext hb; clear hb; dsimp only; (skip))
          | (go_at_call 20; (with_reducible refine (hin _ _ (H.giveCells m0 (fun _ h => h.elim) 0 rfl)).mono ?_); rintro e w3 ⟨rfl, hb⟩; replace H := H.ext hb; clear hb; dsimp only; (skip))
          | (go_at_call 45; (with_reducible refine (h1 _).mono ?_); rintro e w3 ⟨rfl, hb⟩; replace H := H.ext hb; clear hb; dsimp only; (skip))
          | (go_at_call 45; (with_reducible refine (h2 _).mono ?_); rintro e w3 ⟨rfl, hb⟩; replace H := H.ext hb; clear hb; dsimp only; (skip))
          | (guard_target =~ wpList _ _ _ (_ :: _) _ _; (first | (guard_target =~ wpList _ _ _ (Oper.mk _ (.load _ _) _ _ _ _ :: _) _ _; refine BigFrame.wpList_want rfl (fun K hK => ?_); (refine o_loadNC (row := ?_) rfl rfl H ?_ ?_ ?_ (hK _ _ ?_); rotate_left 1; (repeat first | exact .head _ | apply List.Mem.tail); (focus (intro _; simp; done)); (focus (intro _; simp; done))); clear hK K) | ((first | (guard_target =~ wpList _ _ _ (Oper.mk _ (.box _ _) _ _ _ _ :: _) _ _; refine BigFrame.wpList_want rfl (fun K hK => ?_); refine o_box rfl H rfl (fun w3 b2 he H2 => hK _ _ ?_)) | (guard_target =~ wpList _ _ _ (Oper.mk _ (.buildSlice _ _ _) _ _ _ _ :: _) _ _; refine BigFrame.wpList_want rfl (fun K hK => ?_); refine o_buildSlice (C := ?_) (E := ?_) rfl rfl H ?_ rfl (fun w3 b2 he H2 => hK _ _ ?_); rotate_left 2; (focus (intro _; simp [go_sem, Instr.buildSlice]; with_reducible exact rfl)))); clear hK K he; clear H; (try clear w2); revert w3; intro w2 H; simp [Act.eval, Value.cells, setL, List.getD] at H; (first | (clear tk0; rename Nat => c1) | (clear tk1; rename Nat => c2) | (clear tk2; rename Nat => c3) | (clear tk3; rename Nat => c4) | (clear tk4; rename Nat => c5)))); simp only [Act.put, List.setIfInBounds_toArray, List.set_cons_succ, List.set_cons_zero]))
        go_ret
        exact ⟨rfl, H.below⟩
  · cases v0
    · clear KEY
      go_enter Try.func11, Try.ntmps11
      have tk0 : True := trivial
      have tk1 : True := trivial
      have tk2 : True := trivial
      have tk3 : True := trivial
      have tk4 : True := trivial
      have tk5 : True := trivial
      go_wp2_with (first
        | go_big_skip
        | (go_at_call 21; (with_reducible refine (awake5_any _).mono ?_); rintro e w3 ⟨rfl, hb⟩; replace H := H.ext hb; clear hb; dsimp only; (skip))
        | (go_at_call 20; (with_reducible refine (hin _ _ (H.giveCells m0 (fun _ h => h.elim) 0 rfl)).mono ?_); rintro e w3 ⟨rfl, hb⟩; replace H := H.ext hb; clear hb; dsimp only; (skip))
        | (go_at_call 45; (with_reducible refine (h1 _).mono ?_); rintro e w3 ⟨rfl, hb⟩; replace H := H.ext hb; clear hb; dsimp only; (skip))
        | (go_at_call 45; (with_reducible refine (h2 _).mono ?_); rintro e w3 ⟨rfl, hb⟩; replace H := H.ext hb; clear hb; dsimp only; (skip))
        | (guard_target =~ wpList _ _ _ (_ :: _) _ _; (first | (guard_target =~ wpList _ _ _ (Oper.mk _ (.load _ _) _ _ _ _ :: _) _ _; refine BigFrame.wpList_want rfl (fun K hK => ?_); (refine o_loadNC (row := ?_) rfl rfl H ?_ ?_ ?_ (hK _ _ ?_); rotate_left 1; (repeat first | exact .head _ | apply List.Mem.tail); (focus (intro _; simp; done)); (focus (intro _; simp; done))); clear hK K) | ((first | (guard_target =~ wpList _ _ _ (Oper.mk _ (.box _ _) _ _ _ _ :: _) _ _; refine BigFrame.wpList_want rfl (fun K hK => ?_); refine o_box rfl H rfl (fun w3 b2 he H2 => hK _ _ ?_)) | (guard_target =~ wpList _ _ _ (Oper.mk _ (.buildSlice _ _ _) _ _ _ _ :: _) _ _; refine BigFrame.wpList_want rfl (fun K hK => ?_); refine o_buildSlice (C := ?_) (E := ?_) rfl rfl H ?_ rfl (fun w3 b2 he H2 => hK _ _ ?_); rotate_left 2; (focus (intro _; simp [go_sem, Instr.buildSlice]; with_reducible exact rfl)))); clear hK K he; clear H; (try clear w2); revert w3; intro w2 H; simp [Act.eval, Value.cells, setL, List.getD] at H; (first | (clear tk0; rename Nat => c1) | (clear tk1; rename Nat => c2) | (clear tk2; rename Nat => c3) | (clear tk3; rename Nat => c4) | (clear tk4; rename Nat => c5)))); simp only [Act.put, List.setIfInBounds_toArray, List.set_cons_succ, List.set_cons_zero]))
      go_ret
      exact ⟨rfl, H.below⟩
    · cases v1 <;> cases v2 <;> cases v3
      · clear KEY
        go_enter Try.func11, Try.ntmps11
        have tk0 : True := trivial
        have tk1 : True := trivial
        have tk2 : True := trivial
        have tk3 : True := trivial
        have tk4 : True := trivial
        have tk5 : True := trivial
        go_wp2_with (first
          | go_big_skip
          | (go_at_call 21; (with_reducible refine (awake5_any _).mono ?_); rintro e w3 ⟨rfl, hb⟩; replace H := H.ext hb; clear hb; dsimp only; (skip))
          | (go_at_call 20; (with_reducible refine (hin _ _ (H.giveCells m0 (fun _ h => h.elim) 0 rfl)).mono ?_); rintro e w3 ⟨rfl, hb⟩; replace H := H.ext hb; clear hb; dsimp only; (skip))
          | (go_at_call 45; (with_reducible refine (h1 _).mono ?_); rintro e w3 ⟨rfl, hb⟩; replace H := H.ext hb; clear hb; dsimp only; (skip))
          | (go_at_call 45; (with_reducible refine (h2 _).mono ?_); rintro e w3 ⟨rfl, hb⟩; replace H := H.ext hb; clear hb; dsimp only; (skip))
          | (guard_target =~ wpList _ _ _ (_ :: _) _ _; (first | (guard_target =~ wpList _ _ _ (Oper.mk _ (.load _ _) _ _ _ _ :: _) _ _; refine BigFrame.wpList_want rfl (fun K hK => ?_); (refine o_loadNC (row := ?_) rfl rfl H ?_ ?_ ?_ (hK _ _ ?_); rotate_left 1; (repeat first | exact .head _ | apply List.Mem.tail); (focus (intro _; simp; done)); (focus (intro _; simp; done))); clear hK K) | ((first | (guard_target =~ wpList _ _ _ (Oper.mk _ (.box _ _) _ _ _ _ :: _) _ _; refine BigFrame.wpList_want rfl (fun K hK => ?_); refine o_box rfl H rfl (fun w3 b2 he H2 => hK _ _ ?_)) | (guard_target =~ wpList _ _ _ (Oper.mk _ (.buildSlice _ _ _) _ _ _ _ :: _) _ _; refine BigFrame.wpList_want rfl (fun K hK => ?_); refine o_buildSlice (C := ?_) (E := ?_) rfl rfl H ?_ rfl (fun w3 b2 he H2 => hK _ _ ?_); rotate_left 2; (focus (intro _; simp [go_sem, Instr.buildSlice]; with_reducible exact rfl)))); clear hK K he; clear H; (try clear w2); revert w3; intro w2 H; simp [Act.eval, Value.cells, setL, List.getD] at H; (first | (clear tk0; rename Nat => c1) | (clear tk1; rename Nat => c2) | (clear tk2; rename Nat => c3) | (clear tk3; rename Nat => c4) | (clear tk4; rename Nat => c5)))); simp only [Act.put, List.setIfInBounds_toArray, List.set_cons_succ, List.set_cons_zero]))
        go_ret
        exact ⟨rfl, H.below⟩
      all_goals
        clear KEY
        go_enter Try.func11, Try.ntmps11
        have tk0 : True := trivial
        have tk1 : True := trivial
        have tk2 : True := trivial
        have tk3 : True := trivial
        have tk4 : True := trivial
        have tk5 : True := trivial
        go_wp2_with (first
          | go_big_skip
          | (go_at_call 21; (with_reducible refine (awake5_any _).mono ?_); rintro e w3 ⟨rfl, hb⟩; replace H := H.ext hb; clear hb; dsimp only; (skip))
          | (go_at_call 20; (with_reducible refine (hin _ _ (H.giveCells m0 (fun _ h => h.elim) 0 rfl)).mono ?_); rintro e w3 ⟨rfl, hb⟩; replace H := H.ext hb; clear hb; dsimp only; (skip))
          | (go_at_call 45; (with_reducible refine (h1 _).mono ?_); rintro e w3 ⟨rfl, hb⟩; replace H := H.ext hb; clear hb; dsimp only; (skip))
          | (go_at_call 45; (with_reducible refine (h2 _).mono ?_); rintro e w3 ⟨rfl, hb⟩; replace H := H.ext hb; clear hb; dsimp only; (skip))
          | (guard_target =~ wpList _ _ _ (_ :: _) _ _; (first | (guard_target =~ wpList _ _ _ (Oper.mk _ (.load _ _) _ _ _ _ :: _) _ _; refine BigFrame.wpList_want rfl (fun K hK => ?_); (refine o_loadNC (row := ?_) rfl rfl H ?_ ?_ ?_ (hK _ _ ?_); rotate_left 1; (repeat first | exact .head _ | apply List.Mem.tail); (focus (intro _; simp; done)); (focus (intro _; simp; done))); clear hK K) | ((first | (guard_target =~ wpList _ _ _ (Oper.mk _ (.box _ _) _ _ _ _ :: _) _ _; refine BigFrame.wpList_want rfl (fun K hK => ?_); refine o_box rfl H rfl (fun w3 b2 he H2 => hK _ _ ?_)) | (guard_target =~ wpList _ _ _ (Oper.mk _ (.buildSlice _ _ _) _ _ _ _ :: _) _ _; refine BigFrame.wpList_want rfl (fun K hK => ?_); refine o_buildSlice (C := ?_) (E := ?_) rfl rfl H ?_ rfl (fun w3 b2 he H2 => hK _ _ ?_); rotate_left 2; (focus (intro _; simp [go_sem, Instr.buildSlice]; with_reducible exact rfl)))); clear hK K he; clear H; (try clear w2); revert w3; intro w2 H; simp [Act.eval, Value.cells, setL, List.getD] at H; (first | (clear tk0; rename Nat => c1) | (clear tk1; rename Nat => c2) | (clear tk2; rename Nat => c3) | (clear tk3; rename Nat => c4) | (clear tk4; rename Nat => c5)))); simp only [Act.put, List.setIfInBounds_toArray, List.set_cons_succ, List.set_cons_zero]))
        go_ret
        exact ⟨rfl, H.below⟩
end Go.Proofs.Ytmmieilogpmocaa
