/-
  The walks of the statements of plan: keeps.
-/
import Derived.Test.YtbdmfmdkcjfjdaaLaw15a
import Derived.Test.YtbdmfmdkcjfjdaaRegC
import Derived.Test.YtbdmfmdkcjfjdaaPlanM
import Derived.Test.YtbdmfmdkcjfjdaaPlanK
import Derived.Test.YtbdmfmdkcjfjdaaPlan10
import Derived.Deep.DeepCutAuto
import Derived.Test.YtbdmfmdkcjfjdaaOpenPlan
namespace Go.Proofs.Ytbdmfmdkcjfjdaa
set_option linter.unusedVariables false
set_option linter.unusedSimpArgs false
open Go.RowKit

set_option maxRecDepth 200000 in
set_option maxHeartbeats 16000000 in
theorem law_PlanKeeps (A A2 : Option Addr) (c c2 : Nat) (vs : List Vt) (es : List Eg) (px py a b : Int) (w : World) (hp : PlArg w A A2 c c2 vs es) :
    Calls Try.prog 12 #[plV A A2 vs.length es.length c c2, pV px py, .int .i64 a, .int .i64 b] w fun e w' => e = .returned (.bool true) ∧ Below w.heap.size w w' := by
  obtain ⟨hs, hs2, hcv, hce, _, _⟩ := hp
  obtain ⟨F0, hF0⟩ : ∃ F0 : Nat → Prop, F0 = fun _ => False := ⟨_, rfl⟩
  have hFF : ∀ k, F0 k → k < w.heap.size := fun k h => by
    rw [hF0] at h; exact h.elim
  rw [← hF0] at hs hs2
  clear hF0
  obtain ⟨b0, o0, H1, f0⟩ := (Own.start w).addSl (hs.ro (by rfl))
  obtain ⟨b9, o9, H, f9⟩ := H1.addSl (hs2.ro (by rfl))
  clear hs hs2 H1
  have hfw := few_any A A2 vs.length es.length c c2
  obtain ⟨v0, hv0⟩ : ∃ v, (decide (vs.length ≤ 60) && decide (es.length ≤ 60)) = v := ⟨_, rfl⟩
  rw [hv0] at hfw
  cases v0
  · clear hv0
    go_enter Try.func12, Try.ntmps12
    have tk0 : True := trivial
    have tk1 : True := trivial
    go_wp2_with (first
      | (go_at_call 13; (with_reducible refine (hfw _).mono ?_); rintro e w3 ⟨rfl, hb⟩; replace H := H.ext hb; clear hb; dsimp only; (skip))
      | (go_at_call 14; (with_reducible refine (awake15_any _).mono ?_); rintro e w3 ⟨rfl, hb⟩; replace H := H.ext hb; clear hb; dsimp only; (skip))
      | (guard_target =~ wpList _ _ _ (_ :: _) _ _; (first | (guard_target =~ wpList _ _ _ (Oper.mk _ (.load _ _) _ _ _ _ :: _) _ _; refine BigFrame.wpList_want rfl (fun K hK => ?_); (refine o_loadNC (row := ?_) rfl rfl H ?_ ?_ ?_ (hK _ _ ?_); rotate_left 1; (repeat first | exact .head _ | apply List.Mem.tail); (focus (intro _; simp; done)); (focus (intro _; simp; done))); clear hK K) | ((guard_target =~ wpList _ _ _ (Oper.mk _ (.box _ _) _ _ _ _ :: _) _ _; refine BigFrame.wpList_want rfl (fun K hK => ?_); refine o_box rfl H rfl (fun w3 b2 he H2 => hK _ _ ?_)); clear hK K he; clear H; (try clear w2); revert w3; intro w2 H; simp [Act.eval, Value.cells, setL, List.getD] at H; (first | (clear tk0; rename Nat => b1) | (clear tk1; rename Nat => b2)))); simp only [Act.put, List.setIfInBounds_toArray, List.set_cons_succ, List.set_cons_zero]))
    go_ret
    exact ⟨rfl, H.below⟩
  · have hl : vs.length ≤ 1000000 := by simp at hv0; omega
    have hl2 : es.length ≤ 1000000 := by simp at hv0; omega
    have hc2 := hce.1
    have hcc := hce.2
    have hsm : vs.length ≤ 60 ∧ es.length ≤ 60 := by simp at hv0; exact hv0
    have HSM := Lib.hid hsm
    clear hsm hv0
    obtain ⟨big, hbig⟩ : ∃ v, ((decide (0 < vs.length) && decide (1099511627776 < lastV vs)) || (decide (0 < es.length) && decide (1099511627776 < lastE es))) = v := ⟨_, rfl⟩
    have HBIG := Lib.hid hbig
    clear hbig
    go_enter Try.func12, Try.ntmps12
    have tk0 : True := trivial
    have tk1 : True := trivial
    go_upto_region 3 with (first
      | (go_at_call 13; (with_reducible refine (hfw _).mono ?_); rintro e w3 ⟨rfl, hb⟩; replace H := H.ext hb; clear hb; dsimp only; (skip))
      | (go_at_call 14; (with_reducible refine (awake15_any _).mono ?_); rintro e w3 ⟨rfl, hb⟩; replace H := H.ext hb; clear hb; dsimp only; (skip))
      | (guard_target =~ wpList _ _ _ (_ :: _) _ _; (first | (guard_target =~ wpList _ _ _ (Oper.mk _ (.load _ _) _ _ _ _ :: _) _ _; refine BigFrame.wpList_want rfl (fun K hK => ?_); (refine o_loadNC (row := ?_) rfl rfl H ?_ ?_ ?_ (hK _ _ ?_); rotate_left 1; (repeat first | exact .head _ | apply List.Mem.tail); (focus (intro _; simp; done)); (focus (intro _; simp; done))); clear hK K) | ((guard_target =~ wpList _ _ _ (Oper.mk _ (.box _ _) _ _ _ _ :: _) _ _; refine BigFrame.wpList_want rfl (fun K hK => ?_); refine o_box rfl H rfl (fun w3 b2 he H2 => hK _ _ ?_)); clear hK K he; clear H; (try clear w2); revert w3; intro w2 H; simp [Act.eval, Value.cells, setL, List.getD] at H; (first | (clear tk0; rename Nat => b1) | (clear tk1; rename Nat => b2)))); simp only [Act.put, List.setIfInBounds_toArray, List.set_cons_succ, List.set_cons_zero]))
    go_cut [53] (fun v wx => v = .bool big ∧ Own w.heap.size w wx [.cells b2 [.int .i64 px, .int .i64 py], .cells b1 [.slice A vs.length c, .slice A2 es.length c2], .rd A2 b9 o9 (eR es), .rd A b0 o0 (vR vs)])
    case first =>
      rcases Nat.eq_zero_or_pos vs.length with hz1 | hz1
      · obtain rfl : vs = [] := List.eq_nil_of_length_eq_zero hz1
        have B1 : Hid ((decide (0 < ([] : List Vt).length) && decide (1099511627776 < lastV [])) = false) := Lib.hid rfl
        clear hz1
        rcases Nat.eq_zero_or_pos es.length with hz2 | hz2
        · obtain rfl : es = [] := List.eq_nil_of_length_eq_zero hz2
          have B2 : Hid ((decide (0 < ([] : List Eg).length) && decide (1099511627776 < lastE [])) = false) := Lib.hid rfl
          clear hz2
          have tk0 : True := trivial
          have tk1 : True := trivial
          go_wp2_with (first
            | go_big_skip
            | (guard_target =~ wpList _ _ _ (_ :: _) _ _; (guard_target =~ wpList _ _ _ (Oper.mk _ (.load _ _) _ _ _ _ :: _) _ _; refine BigFrame.wpList_want rfl (fun K hK => ?_); (refine o_loadC (v := ?_) (row := ?_) rfl rfl H ?_ ?_ ?_ (hK _ _ ?_); rotate_left 2; (repeat first | exact .head _ | apply List.Mem.tail); (exact rfl); (focus (intro _; simp; done))); clear hK K); simp only [Act.put, List.setIfInBounds_toArray, List.set_cons_succ, List.set_cons_zero]))
          go_meet
          case rel => exact ⟨by rw [← HBIG.out, B1.out, B2.out]; rfl, H⟩
        · obtain ⟨k2, hk2⟩ : ∃ k, es.length = k + 1 := ⟨es.length - 1, by omega⟩
          obtain ⟨i2, x2, y2, he2⟩ := eg_at es (k := k2) (by omega)
          have hl2 : lastE es = i2 := by
            have := lastE_step he2
            rwa [← hk2, List.take_length] at this
          obtain rfl := H.rdAddr m2 (eR_pos he2)
          have hp2 := at_eid (A := some ⟨b9, o9, none⟩) (b := b9) (off := o9) he2
          have hlt2 : k2 < es.length := by omega
          have hck2 : ((es.length : Nat) : Int) - 1 = (k2 : Int) := by omega
          have hzi2 : (0 : Int) < ((es.length : Nat) : Int) := by omega
          obtain ⟨q2, hq2⟩ : ∃ v, decide (1099511627776 < i2) = v := ⟨_, rfl⟩
          have B2 : Hid ((decide (0 < es.length) && decide (1099511627776 < lastE es)) = q2) := Lib.hid (by rw [hl2, hq2, decide_eq_true hz2, Bool.true_and])
          clear he2 hk2 hl2
          cases q2
          · have tk0 : True := trivial
            have tk1 : True := trivial
            go_wp2_with (first
              | go_big_skip
              | (guard_target =~ wpList _ _ _ (_ :: _) _ _; (guard_target =~ wpList _ _ _ (Oper.mk _ (.load _ _) _ _ _ _ :: _) _ _; refine BigFrame.wpList_want rfl (fun K hK => ?_); (first | (refine o_load (v := ?_) (r := ?_) rfl rfl H ?_ ?_ ?_ (hK _ _ ?_); rotate_left 2; (with_reducible assumption); (repeat first | exact .head _ | apply List.Mem.tail); (focus (intro _; simp; done))) | (refine o_loadC (v := ?_) (row := ?_) rfl rfl H ?_ ?_ ?_ (hK _ _ ?_); rotate_left 2; (repeat first | exact .head _ | apply List.Mem.tail); (exact rfl); (focus (intro _; simp; done)))); clear hK K); simp only [Act.put, List.setIfInBounds_toArray, List.set_cons_succ, List.set_cons_zero]))
            go_meet
            case rel => exact ⟨by rw [← HBIG.out, B1.out, B2.out]; rfl, H⟩
          · have tk0 : True := trivial
            have tk1 : True := trivial
            go_wp2_with (first
              | go_big_skip
              | (guard_target =~ wpList _ _ _ (_ :: _) _ _; (guard_target =~ wpList _ _ _ (Oper.mk _ (.load _ _) _ _ _ _ :: _) _ _; refine BigFrame.wpList_want rfl (fun K hK => ?_); (first | (refine o_load (v := ?_) (r := ?_) rfl rfl H ?_ ?_ ?_ (hK _ _ ?_); rotate_left 2; (with_reducible assumption); (repeat first | exact .head _ | apply List.Mem.tail); (focus (intro _; simp; done))) | (refine o_loadC (v := ?_) (row := ?_) rfl rfl H ?_ ?_ ?_ (hK _ _ ?_); rotate_left 2; (repeat first | exact .head _ | apply List.Mem.tail); (exact rfl); (focus (intro _; simp; done)))); clear hK K); simp only [Act.put, List.setIfInBounds_toArray, List.set_cons_succ, List.set_cons_zero]))
            go_meet
            case rel => exact ⟨by rw [← HBIG.out, B1.out, B2.out]; rfl, H⟩
      · obtain ⟨k1, hk1⟩ : ∃ k, vs.length = k + 1 := ⟨vs.length - 1, by omega⟩
        obtain ⟨i1, x1, y1, he1⟩ := vt_at vs (k := k1) (by omega)
        have hl1 : lastV vs = i1 := by
          have := lastV_step he1
          rwa [← hk1, List.take_length] at this
        obtain rfl := H.rdAddr m3 (vR_pos he1)
        have hp1 := at_vid (A := some ⟨b0, o0, none⟩) (b := b0) (off := o0) he1
        have hlt1 : k1 < vs.length := by omega
        have hck1 : ((vs.length : Nat) : Int) - 1 = (k1 : Int) := by omega
        have hzi1 : (0 : Int) < ((vs.length : Nat) : Int) := by omega
        obtain ⟨q1, hq1⟩ : ∃ v, decide (1099511627776 < i1) = v := ⟨_, rfl⟩
        have B1 : Hid ((decide (0 < vs.length) && decide (1099511627776 < lastV vs)) = q1) := Lib.hid (by rw [hl1, hq1, decide_eq_true hz1, Bool.true_and])
        clear he1 hk1 hl1
        cases q1
        · rcases Nat.eq_zero_or_pos es.length with hz2 | hz2
          · obtain rfl : es = [] := List.eq_nil_of_length_eq_zero hz2
            have B2 : Hid ((decide (0 < ([] : List Eg).length) && decide (1099511627776 < lastE [])) = false) := Lib.hid rfl
            clear hz2
            have tk0 : True := trivial
            have tk1 : True := trivial
            go_wp2_with (first
              | go_big_skip
              | (guard_target =~ wpList _ _ _ (_ :: _) _ _; (guard_target =~ wpList _ _ _ (Oper.mk _ (.load _ _) _ _ _ _ :: _) _ _; refine BigFrame.wpList_want rfl (fun K hK => ?_); (first | (refine o_load (v := ?_) (r := ?_) rfl rfl H ?_ ?_ ?_ (hK _ _ ?_); rotate_left 2; (with_reducible assumption); (repeat first | exact .head _ | apply List.Mem.tail); (focus (intro _; simp; done))) | (refine o_loadC (v := ?_) (row := ?_) rfl rfl H ?_ ?_ ?_ (hK _ _ ?_); rotate_left 2; (repeat first | exact .head _ | apply List.Mem.tail); (exact rfl); (focus (intro _; simp; done)))); clear hK K); simp only [Act.put, List.setIfInBounds_toArray, List.set_cons_succ, List.set_cons_zero]))
            go_meet
            case rel => exact ⟨by rw [← HBIG.out, B1.out, B2.out]; rfl, H⟩
          · obtain ⟨k2, hk2⟩ : ∃ k, es.length = k + 1 := ⟨es.length - 1, by omega⟩
            obtain ⟨i2, x2, y2, he2⟩ := eg_at es (k := k2) (by omega)
            have hl2 : lastE es = i2 := by
              have := lastE_step he2
              rwa [← hk2, List.take_length] at this
            obtain rfl := H.rdAddr m2 (eR_pos he2)
            have hp2 := at_eid (A := some ⟨b9, o9, none⟩) (b := b9) (off := o9) he2
            have hlt2 : k2 < es.length := by omega
            have hck2 : ((es.length : Nat) : Int) - 1 = (k2 : Int) := by omega
            have hzi2 : (0 : Int) < ((es.length : Nat) : Int) := by omega
            obtain ⟨q2, hq2⟩ : ∃ v, decide (1099511627776 < i2) = v := ⟨_, rfl⟩
            have B2 : Hid ((decide (0 < es.length) && decide (1099511627776 < lastE es)) = q2) := Lib.hid (by rw [hl2, hq2, decide_eq_true hz2, Bool.true_and])
            clear he2 hk2 hl2
            cases q2
            · have tk0 : True := trivial
              have tk1 : True := trivial
              go_wp2_with (guard_target =~ wpList _ _ _ (_ :: _) _ _; (guard_target =~ wpList _ _ _ (Oper.mk _ (.load _ _) _ _ _ _ :: _) _ _; refine BigFrame.wpList_want rfl (fun K hK => ?_); (first | (refine o_load (v := ?_) (r := ?_) rfl rfl H ?_ ?_ ?_ (hK _ _ ?_); rotate_left 2; (with_reducible assumption); (repeat first | exact .head _ | apply List.Mem.tail); (focus (intro _; simp; done))) | (refine o_loadC (v := ?_) (row := ?_) rfl rfl H ?_ ?_ ?_ (hK _ _ ?_); rotate_left 2; (repeat first | exact .head _ | apply List.Mem.tail); (exact rfl); (focus (intro _; simp; done)))); clear hK K); simp only [Act.put, List.setIfInBounds_toArray, List.set_cons_succ, List.set_cons_zero])
              go_meet
              case rel => exact ⟨by rw [← HBIG.out, B1.out, B2.out]; rfl, H⟩
            · have tk0 : True := trivial
              have tk1 : True := trivial
              go_wp2_with (guard_target =~ wpList _ _ _ (_ :: _) _ _; (guard_target =~ wpList _ _ _ (Oper.mk _ (.load _ _) _ _ _ _ :: _) _ _; refine BigFrame.wpList_want rfl (fun K hK => ?_); (first | (refine o_load (v := ?_) (r := ?_) rfl rfl H ?_ ?_ ?_ (hK _ _ ?_); rotate_left 2; (with_reducible assumption); (repeat first | exact .head _ | apply List.Mem.tail); (focus (intro _; simp; done))) | (refine o_loadC (v := ?_) (row := ?_) rfl rfl H ?_ ?_ ?_ (hK _ _ ?_); rotate_left 2; (repeat first | exact .head _ | apply List.Mem.tail); (exact rfl); (focus (intro _; simp; done)))); clear hK K); simp only [Act.put, List.setIfInBounds_toArray, List.set_cons_succ, List.set_cons_zero])
              go_meet
              case rel => exact ⟨by rw [← HBIG.out, B1.out, B2.out]; rfl, H⟩
        · have tk0 : True := trivial
          have tk1 : True := trivial
          go_wp2_with (first
            | go_big_skip
            | (guard_target =~ wpList _ _ _ (_ :: _) _ _; (guard_target =~ wpList _ _ _ (Oper.mk _ (.load _ _) _ _ _ _ :: _) _ _; refine BigFrame.wpList_want rfl (fun K hK => ?_); (first | (refine o_load (v := ?_) (r := ?_) rfl rfl H ?_ ?_ ?_ (hK _ _ ?_); rotate_left 2; (with_reducible assumption); (repeat first | exact .head _ | apply List.Mem.tail); (focus (intro _; simp; done))) | (refine o_loadC (v := ?_) (row := ?_) rfl rfl H ?_ ?_ ?_ (hK _ _ ?_); rotate_left 2; (repeat first | exact .head _ | apply List.Mem.tail); (exact rfl); (focus (intro _; simp; done)))); clear hK K); simp only [Act.put, List.setIfInBounds_toArray, List.set_cons_succ, List.set_cons_zero]))
          go_meet
          case rel => exact ⟨by rw [← HBIG.out, B1.out]; rfl, H⟩
    case rest =>
      obtain ⟨rfl, H⟩ := hcut
      have hrt := fun F w h1 h2 => right_any vs es A A2 vs.length es.length c c2 F w rfl rfl h1 h2 hl hl2 hc2 hcc
      rw [right_same] at hrt
      have h1a := fun F w h1 h2 => canAdd_any vs es A A2 vs.length es.length c c2 F px py w ⟨rfl, rfl, h1, h2, hl, hl2, hc2, hcc⟩
      rw [add_same] at h1a
      have h1l := fun F w h1 h2 => canLink_any vs es A A2 vs.length es.length c c2 F a b w ⟨rfl, rfl, h1, h2, hl, hl2, hc2, hcc⟩
      rw [link_same] at h1l
      have h1d := fun F w h1 h2 => canDrop_any vs es A A2 vs.length es.length c c2 F a w ⟨rfl, rfl, h1, h2, hl, hl2, hc2, hcc⟩
      rw [drop_same] at h1d
      have h1c := fun F w h1 h2 => canCut_any vs es A A2 vs.length es.length c c2 F a w ⟨rfl, rfl, h1, h2, hl, hl2, hc2, hcc⟩
      rw [cut_same] at h1c
      have h1s := fun F w h1 h2 => canSplit_any vs es A A2 vs.length es.length c c2 F a px py w ⟨rfl, rfl, h1, h2, hl, hl2, hc2, hcc⟩
      rw [split_same] at h1s
      obtain ⟨r, hr⟩ : ∃ r, rightR vs es = r := ⟨_, rfl⟩
      have HR := Lib.hid hr
      rw [hr] at hrt
      clear hr
      cases big
      · cases r
        · obtain ⟨w1, w2, w3, w4, w5⟩ := wrong_all HR.out ⟨px, py⟩ a b
          rw [w1] at h1a
          rw [w2] at h1l
          rw [w3] at h1d
          rw [w4] at h1c
          rw [w5] at h1s
          clear w1 w2 w3 w4 w5
          have tk0 : True := trivial
          have tk1 : True := trivial
          go_wp2_with (first
            | (guard_target =~ Code.wp _ (Code.region 6 _ true) _ _ _; refine region_treeC0 6 (G := True) (.q 0 (.q 2 (.q 1 (.q 3 (.q 4 .nil))))) (by kernel_rfl) (by intro c a d v w h; cases d <;> exact h) (by kernel_rfl) H ⟨trivial⟩ (fun _ w3 H2 => ?_); (clear H; (try clear w2); revert w3; intro w2 H))
            | (guard_target =~ Code.wp _ (Code.region 9 _ true) _ _ _; refine region_treeC0 9 (G := True) (.q 0 (.q 1 (.q 2 (.q 3 (.q 4 (.q 5 (.q 6 (.q 7 (.q 9 (.q 8 (.q 10 (.q 11 (.q 12 (.q 13 (.q 14 (.q 16 (.q 15 (.q 17 (.q 18 (.q 19 (.q 20 (.q 21 (.q 23 (.q 24 (.q 22 (.q 25 (.q 26 (.q 27 (.q 28 .nil))))))))))))))))))))))))))))) (by kernel_rfl) (by intro c a d v w h; cases d <;> exact h) (by kernel_rfl) H ⟨trivial⟩ (fun _ w3 H2 => ?_); (clear H; (try clear w2); revert w3; intro w2 H))
            | (go_at_call 16; (with_reducible refine (plain_any _ _ _ _ _ _ _).mono ?_); rintro e w3 ⟨rfl, hb⟩; replace H := H.ext hb; clear hb; dsimp only; (skip))
            | (go_at_call 15; (with_reducible refine (hrt _ _ (by exact H.giveRd m3 f0) (by exact H.giveRd m2 f9)).mono ?_); rintro e w3 ⟨rfl, hb⟩; replace H := H.ext hb; clear hb; dsimp only; (skip))
            | (go_at_call 18; (with_reducible refine (h1l _ _ (by exact H.giveRd m3 f0) (by exact H.giveRd m2 f9)).mono ?_); rintro e w3 ⟨rfl, hb⟩; replace H := H.ext hb; clear hb; dsimp only; (skip))
            | (guard_target =~ wpList _ _ _ (_ :: _) _ _; (guard_target =~ wpList _ _ _ (Oper.mk _ (.load _ _) _ _ _ _ :: _) _ _; refine BigFrame.wpList_want rfl (fun K hK => ?_); (refine o_loadNC (row := ?_) rfl rfl H ?_ ?_ ?_ (hK _ _ ?_); rotate_left 1; (repeat first | exact .head _ | apply List.Mem.tail); (focus (intro _; simp; done)); (focus (intro _; simp; done))); clear hK K); simp only [Act.put, List.setIfInBounds_toArray, List.set_cons_succ, List.set_cons_zero])
            | (guard_target =~ wpTreeC _ _ _ _ _ _ _; first | (guard_target =~ wpTreeC _ _ _ (Tr.e _ Tr.nil) _ _ _; refine treeC_last (by kernel_rfl) H rfl rfl (fun w3 H2 K hK => ?_); clear H; (try clear w2); (revert w3; intro w2 H); simp only [List.getElem_toArray, List.getElem_cons_succ, List.getElem_cons_zero]; (first | fail); simp only [Act.put, List.setIfInBounds_toArray, List.set_cons_succ, List.set_cons_zero]) | (guard_target =~ wpTreeC _ _ _ (Tr.q _ _) _ _ _; first | (refine treeC_quiet ⟨_, H, by repeat first | exact .here | apply Suf.there⟩ rfl rfl rfl (fun K hK => ?_); simp only [List.getElem_toArray, List.getElem_cons_succ, List.getElem_cons_zero]; first | (guard_target =~ Oper.quiet _ (Oper.mk _ (.load _ _) _ _ _ _) _ _ _; (refine q_loadNC (row := ?_) rfl rfl ?_ ?_ ?_ (hK _ ?_); rotate_left 1; (repeat first | exact .head _ | apply List.Mem.tail); (focus (intro _; simp; done)); (focus (intro _; simp; done))); clear hK K; simp only [Act.put, List.setIfInBounds_toArray, List.set_cons_succ, List.set_cons_zero]) | (go_big_quiet_op; (try refine ⟨_, fun _ _ => rfl, ?_⟩); refine hK _ ?_; clear hK K)) | (refine treeC_call (v := ?_) ⟨_, H, by repeat first | exact .here | apply Suf.there⟩ rfl rfl (fun w3 H K hK => ?_) ?_; rotate_left 1; (focus (simp only [List.getElem_toArray, List.getElem_cons_succ, List.getElem_cons_zero]; go_big_op; first | (go_at_call 13; (with_reducible refine (hfw _).mono ?_); rintro e w3 ⟨rfl, hb⟩; dsimp only; first | exact hK _ hb | exact hK _ (Ext.refl _)) | (go_at_call 14; (with_reducible refine (awake15_any _).mono ?_); rintro e w3 ⟨rfl, hb⟩; dsimp only; first | exact hK _ hb | exact hK _ (Ext.refl _)) | (go_at_call 16; (with_reducible refine (plain_any _ _ _ _ _ _ _).mono ?_); rintro e w3 ⟨rfl, hb⟩; dsimp only; first | exact hK _ hb | exact hK _ (Ext.refl _)) | (go_at_call 15; (with_reducible refine (hrt _ _ (by first | fail) (by first | fail)).mono ?_); rintro e w3 ⟨rfl, hb⟩; dsimp only; first | exact hK _ hb | exact hK _ (Ext.refl _)) | (go_at_call 26; (with_reducible refine (h1a _ _ (by exact H.giveRd m3 f0) (by exact H.giveRd m2 f9)).mono ?_); rintro e w3 ⟨rfl, hb⟩; dsimp only; first | exact hK _ hb | exact hK _ (Ext.refl _)) | (go_at_call 18; (with_reducible refine (h1l _ _ (by first | fail) (by first | fail)).mono ?_); rintro e w3 ⟨rfl, hb⟩; dsimp only; first | exact hK _ hb | exact hK _ (Ext.refl _)) | (go_at_call 35; (with_reducible refine (h1d _ _ (by exact H.giveRd m3 f0) (by exact H.giveRd m2 f9)).mono ?_); rintro e w3 ⟨rfl, hb⟩; dsimp only; first | exact hK _ hb | exact hK _ (Ext.refl _)) | (go_at_call 37; (with_reducible refine (h1c _ _ (by exact H.giveRd m3 f0) (by exact H.giveRd m2 f9)).mono ?_); rintro e w3 ⟨rfl, hb⟩; dsimp only; first | exact hK _ hb | exact hK _ (Ext.refl _)) | (go_at_call 28; (with_reducible refine (h1s _ _ (by exact H.giveRd m3 f0) (by exact H.giveRd m2 f9)).mono ?_); rintro e w3 ⟨rfl, hb⟩; dsimp only; first | exact hK _ hb | exact hK _ (Ext.refl _)))); simp only [List.getElem_toArray, List.getElem_cons_succ, List.getElem_cons_zero, Act.put, List.setIfInBounds_toArray, List.set_cons_succ, List.set_cons_zero]) | (refine treeC_skip ⟨_, H, by repeat first | exact .here | apply Suf.there⟩ rfl rfl ?_; simp only [List.getElem_toArray, List.getElem_cons_succ, List.getElem_cons_zero, Act.put, List.setIfInBounds_toArray, List.set_cons_succ, List.set_cons_zero])) | (guard_target =~ wpTreeC _ _ _ (Tr.both _ _) _ _ _; refine treeC_both ?_ ?_) | (guard_target =~ wpTreeC _ _ _ (Tr.e _ _) _ _ _; first | (refine treeC_one H rfl rfl (fun w3 H2 K hK => ?_); clear H; (try clear w2); (revert w3; intro w2 H); simp only [List.getElem_toArray, List.getElem_cons_succ, List.getElem_cons_zero]; first | ((first | fail); simp only [Act.put, List.setIfInBounds_toArray, List.set_cons_succ, List.set_cons_zero]) | (go_big_op; (first | fail))) | (refine treeC_one_skip (fun w3 hx => ⟨_, H.ext hx, by repeat first | exact .here | apply Suf.there⟩) rfl rfl (fun w3 hx => ?_); replace H := H.ext hx; clear hx; (try clear w2); revert w3; intro w2 H; simp only [List.getElem_toArray, List.getElem_cons_succ, List.getElem_cons_zero, Act.put, List.setIfInBounds_toArray, List.set_cons_succ, List.set_cons_zero])) | (guard_target =~ wpTreeC _ _ _ Tr.nil _ _ _; refine treeC_nil H (fun w3 H2 => ?_); clear H; (try clear w2); revert w3; intro w2 H)))
          go_ret
          exact ⟨rfl, H.below⟩
        · have hR := (right_iff vs es).1 HR.out
          have hbv : -9223372036854775808 ≤ lastV vs + 1 ∧ lastV vs + 1 ≤ 9223372036854775807 := by
            have h0 := lastV_pos fun v hv => (hR.verts.each v hv).1
            have hB := HBIG.out
            simp only [Bool.or_eq_false_iff, Bool.and_eq_false_iff, decide_eq_false_iff_not] at hB
            rcases hB.1 with h | h
            · obtain rfl : vs = [] := List.eq_nil_of_length_eq_zero (by omega)
              decide
            · omega
          have hbe : -9223372036854775808 ≤ lastE es + 1 ∧ lastE es + 1 ≤ 9223372036854775807 := by
            have h0 := lastE_pos fun v hv => (hR.each v hv).1
            have hB := HBIG.out
            simp only [Bool.or_eq_false_iff, Bool.and_eq_false_iff, decide_eq_false_iff_not] at hB
            rcases hB.2 with h | h
            · obtain rfl : es = [] := List.eq_nil_of_length_eq_zero (by omega)
              decide
            · omega
          have hAdd := fun (F : Nat → Prop) (w : World) (hF : ∀ k, F k → k < w.heap.size) h1 h2 => (plAdd_any vs es vs.length es.length A A2 c c2 F px py w rfl rfl h1 h2 hl hl2 hbv.1 hbv.2).mono fun e w' h => retPl_of hF h
          have hLink := fun (F : Nat → Prop) (w : World) (hF : ∀ k, F k → k < w.heap.size) h1 h2 => (plLink_any vs es vs.length es.length A A2 c c2 F a b w rfl rfl h1 h2 hl hl2 hbe.1 hbe.2).mono fun e w' h => retPl_of hF h
          have hDrop := fun (F : Nat → Prop) (w : World) (hF : ∀ k, F k → k < w.heap.size) h1 h2 => (plDrop_any vs es vs.length es.length A A2 c c2 F a w rfl rfl h1 h2 hl hl2).mono fun e w' h => retPl_of hF h
          have hCut := fun (F : Nat → Prop) (w : World) (hF : ∀ k, F k → k < w.heap.size) h1 h2 => (plCut_any vs es vs.length es.length A A2 c c2 F a w rfl rfl h1 h2 hl hl2).mono fun e w' h => retPl_of hF h
          have hRA : ∀ A A2 c c2 F w, Sl F w A (vR (vs ++ [⟨lastV vs + 1, ⟨px, py⟩⟩])) → Sl F w A2 (eR (es)) → es.length ≤ c2 → c2 ≤ maxLen → Calls Try.prog 15 #[plV A A2 (vs.length + 1) (es.length) c c2] w fun e w' => e = .returned (.bool (decide (canAddR vs es ⟨px, py⟩ = 0))) ∧ Below w.heap.size w w' := by
            intro A A2 c c2 F w h1 h2 h3 h4
            have h := right_any (vs ++ [⟨lastV vs + 1, ⟨px, py⟩⟩]) (es) A A2 (vs.length + 1) (es.length) c c2 F w (by simp) rfl h1 h2 (by have := HSM.out; have := List.length_filter_le (fun v => v.id != a) vs; omega) (by have := HSM.out; have := List.length_filter_le (fun v => v.id != a) es; omega) h3 h4
            rw [right_same, add_keeps HR.out (by have := HSM.out; omega)] at h
            exact h
          have hRL : ∀ A A2 c c2 F w, Sl F w A (vR (vs)) → Sl F w A2 (eR (es ++ [⟨lastE es + 1, a, b⟩])) → es.length + 1 ≤ c2 → c2 ≤ maxLen → Calls Try.prog 15 #[plV A A2 (vs.length) (es.length + 1) c c2] w fun e w' => e = .returned (.bool (decide (canLinkR vs es a b = 0))) ∧ Below w.heap.size w w' := by
            intro A A2 c c2 F w h1 h2 h3 h4
            have h := right_any (vs) (es ++ [⟨lastE es + 1, a, b⟩]) A A2 (vs.length) (es.length + 1) c c2 F w rfl (by simp) h1 h2 (by have := HSM.out; have := List.length_filter_le (fun v => v.id != a) vs; omega) (by have := HSM.out; have := List.length_filter_le (fun v => v.id != a) es; omega) h3 h4
            rw [right_same, link_keeps HR.out (by have := HSM.out; omega)] at h
            exact h
          have hRC : ∀ A A2 c c2 F w, Sl F w A (vR (vs)) → Sl F w A2 (eR (es.filter fun v => v.id != a)) → (es.filter fun v => v.id != a).length ≤ c2 → c2 ≤ maxLen → Calls Try.prog 15 #[plV A A2 (vs.length) ((es.filter fun v => v.id != a).length) c c2] w fun e w' => e = .returned (.bool true) ∧ Below w.heap.size w w' := by
            intro A A2 c c2 F w h1 h2 h3 h4
            have h := right_any (vs) (es.filter fun v => v.id != a) A A2 (vs.length) ((es.filter fun v => v.id != a).length) c c2 F w rfl rfl h1 h2 (by have := HSM.out; have := List.length_filter_le (fun v => v.id != a) vs; omega) (by have := HSM.out; have := List.length_filter_le (fun v => v.id != a) es; omega) h3 h4
            rw [right_same, cut_keeps HR.out a] at h
            exact h
          have hRD : canDropR vs es a ≠ 6 → ∀ A A2 c c2 F w, Sl F w A (vR (vs.filter fun v => v.id != a)) → Sl F w A2 (eR es) → es.length ≤ c2 → c2 ≤ maxLen → Calls Try.prog 15 #[plV A A2 (vs.filter fun v => v.id != a).length es.length c c2] w fun e w' => e = .returned (.bool (decide (canDropR vs es a = 0))) ∧ Below w.heap.size w w' := by
            intro h6 A A2 c c2 F w h1 h2 h3 h4
            have h := right_any (vs.filter fun v => v.id != a) es A A2 (vs.filter fun v => v.id != a).length es.length c c2 F w rfl rfl h1 h2 (by have := HSM.out; have := List.length_filter_le (fun v => v.id != a) vs; omega) hl2 h3 h4
            rw [right_same, drop_keeps HR.out a h6] at h
            exact h
          obtain ⟨z1, hz1⟩ : ∃ z, canAddR vs es ⟨px, py⟩ = z := ⟨_, rfl⟩
          obtain ⟨z2, hz2⟩ : ∃ z, canLinkR vs es a b = z := ⟨_, rfl⟩
          obtain ⟨z3, hz3⟩ : ∃ z, canDropR vs es a = z := ⟨_, rfl⟩
          obtain ⟨z4, hz4⟩ : ∃ z, canCutR vs es a = z := ⟨_, rfl⟩
          rw [hz1] at h1a hRA
          rw [hz2] at h1l hRL
          rw [hz3] at h1d hRD
          rw [hz4] at h1c
          clear hz1 hz2 hz3 hz4 hR hbv hbe
          obtain ⟨v1, hv1⟩ : ∃ v, decide (z1 = 0) = v := ⟨_, rfl⟩
          obtain ⟨v2, hv2⟩ : ∃ v, decide (z2 = 0) = v := ⟨_, rfl⟩
          obtain ⟨v3, hv3⟩ : ∃ v, decide (z3 = 0) = v := ⟨_, rfl⟩
          rw [hv1] at hRA
          rw [hv2] at hRL
          rw [hv3] at hRD
          have e1 : (z1 == 0) = v1 := by rw [← hv1]; rfl
          have e2 : (z2 == 0) = v2 := by rw [← hv2]; rfl
          have e3 : (z3 == 0) = v3 := by rw [← hv3]; rfl
          clear hv1 hv2 hv3
          obtain ⟨v6, e6⟩ : ∃ v, (z3 == 6) = v := ⟨_, rfl⟩
          obtain ⟨v4, e4⟩ : ∃ v, (z4 == 0) = v := ⟨_, rfl⟩
          have n6 : (z3 != 6) = !v6 := by rw [bne, e6]
          have n4 : (z4 != 0) = !v4 := by rw [bne, e4]
          cases v6
          · have hRD := hRD (by simpa using e6)
            simp only [Bool.not_false] at n6
            cases v4
            · simp only [Bool.not_false] at n4
              have tk0 : True := trivial
              have tk1 : True := trivial
              go_wp2_with (first
                | go_big_skip
                | (guard_target =~ Code.wp _ (Code.region 12 _ true) _ _ _; refine region_treeC0 12 (G := True) (.q 0 (.q 1 (.q 2 (.q 3 (.q 4 (.q 5 (.q 6 (.q 7 (.q 11 (.q 13 (.e 8 (.q 9 (.e 10 (.q 12 (.q 14 (.q 15 (.q 16 (.q 17 .nil)))))))))))))))))) (by kernel_rfl) (by intro c a d v w h; cases d <;> exact h) (by kernel_rfl) H ⟨trivial⟩ (fun _ w3 H2 => ?_); (clear H; (try clear w2); revert w3; intro w2 H))
                | (guard_target =~ Code.wp _ (Code.region 6 _ true) _ _ _; refine region_treeC0 6 (G := True) (.q 0 (.q 2 (.q 1 (.q 3 (.q 4 .nil))))) (by kernel_rfl) (by intro c a d v w h; cases d <;> exact h) (by kernel_rfl) H ⟨trivial⟩ (fun _ w3 H2 => ?_); (clear H; (try clear w2); revert w3; intro w2 H))
                | (go_at_call 16; (with_reducible refine (plain_any _ _ _ _ _ _ _).mono ?_); rintro e w3 ⟨rfl, hb⟩; replace H := H.ext hb; clear hb; dsimp only; (skip))
                | (go_at_call 15; (with_reducible refine (hrt _ _ (by first | exact H.giveRd m3 f0 | exact H.giveRd m5 f0 | exact H.giveRd m7 f0 | exact H.giveRd m9 f0) (by first | exact H.giveRd m2 f9 | exact H.giveRd m4 f9 | exact H.giveRd m6 f9 | exact H.giveRd m8 f9)).mono ?_); rintro e w3 ⟨rfl, hb⟩; replace H := H.ext hb; clear hb; dsimp only; (skip))
                | (go_at_call 18; (with_reducible refine (h1l _ _ (by exact H.giveRd m3 f0) (by exact H.giveRd m2 f9)).mono ?_); rintro e w3 ⟨rfl, hb⟩; replace H := H.ext hb; clear hb; dsimp only; (skip))
                | (go_at_call 37; (with_reducible refine (h1c _ _ (by exact H.giveRd m9 f0) (by exact H.giveRd m8 f9)).mono ?_); rintro e w3 ⟨rfl, hb⟩; replace H := H.ext hb; clear hb; dsimp only; (skip))
                | (go_at_call 39; (with_reducible refine (hAdd (FW F0 _) _ (H.fw_lt rfl hFF) (by exact H.giveRd m3 f0) (by exact H.giveRd m2 f9)).mono ?_); rintro e w3 ⟨A21, A22, c21, c22, rfl, hb, s21, s22, g21, g22⟩; replace H := H.ext hb; clear hb; obtain ⟨b21, o21, H4, f21⟩ := H.addSl s21; clear H s21; have H := H4; clear H4; replace s22 := H.moreRo rfl s22; obtain ⟨b22, o22, H4, f22⟩ := H.addSl s22; clear H s22; have H := H4; clear H4; dsimp only; (skip))
                | (go_at_call 40; (with_reducible refine (hLink (FW F0 _) _ (H.fw_lt rfl hFF) (by exact H.giveRd m5 f0) (by exact H.giveRd m4 f9)).mono ?_); rintro e w3 ⟨A31, A32, c31, c32, rfl, hb, s31, s32, g31, g32⟩; replace H := H.ext hb; clear hb; obtain ⟨b31, o31, H4, f31⟩ := H.addSl s31; clear H s31; have H := H4; clear H4; replace s32 := H.moreRo rfl s32; obtain ⟨b32, o32, H4, f32⟩ := H.addSl s32; clear H s32; have H := H4; clear H4; dsimp only; (skip))
                | (go_at_call 15; (with_reducible refine (hRA _ _ _ _ _ _ (by first | exact H.giveRd m1 f21 | exact H.giveRd m3 f21 | exact H.giveRd m5 f21) (by first | exact H.giveRd m0 f22 | exact H.giveRd m2 f22 | exact H.giveRd m4 f22) g21 g22).mono ?_); rintro e w3 ⟨rfl, hb⟩; replace H := H.ext hb; clear hb; dsimp only; (skip))
                | (go_at_call 15; (with_reducible refine (hRL _ _ _ _ _ _ (by first | exact H.giveRd m1 f31 | exact H.giveRd m3 f31) (by first | exact H.giveRd m0 f32 | exact H.giveRd m2 f32) g31 g32).mono ?_); rintro e w3 ⟨rfl, hb⟩; replace H := H.ext hb; clear hb; dsimp only; (skip))
                | (go_at_call 41; (with_reducible refine (hDrop (FW F0 _) _ (H.fw_lt rfl hFF) (by exact H.giveRd m7 f0) (by exact H.giveRd m6 f9)).mono ?_); rintro e w3 ⟨A41, A42, c41, c42, rfl, hb, s41, s42, g41, g42⟩; replace H := H.ext hb; clear hb; obtain ⟨b41, o41, H4, f41⟩ := H.addSl s41; clear H s41; have H := H4; clear H4; replace s42 := H.moreRo rfl s42; obtain ⟨b42, o42, H4, f42⟩ := H.addSl s42; clear H s42; have H := H4; clear H4; dsimp only; (refine hK _ _ ⟨_, H, by repeat first | exact .here | apply Suf.there⟩ ?_; clear hK K; (try simp only [Act.put, List.setIfInBounds_toArray, List.set_cons_succ, List.set_cons_zero])))
                | (go_at_call 15; (with_reducible refine (hRD _ _ _ _ _ _ (by exact H.giveRd m1 f41) (by exact H.giveRd m0 f42) g41 g42).mono ?_); rintro e w3 ⟨rfl, hb⟩; replace H := H.ext hb; clear hb; dsimp only; (refine hK _ _ ⟨_, H, by repeat first | exact .here | apply Suf.there⟩ ?_; clear hK K; (try simp only [Act.put, List.setIfInBounds_toArray, List.set_cons_succ, List.set_cons_zero])))
                | (guard_target =~ wpList _ _ _ (_ :: _) _ _; (guard_target =~ wpList _ _ _ (Oper.mk _ (.load _ _) _ _ _ _ :: _) _ _; refine BigFrame.wpList_want rfl (fun K hK => ?_); (refine o_loadNC (row := ?_) rfl rfl H ?_ ?_ ?_ (hK _ _ ?_); rotate_left 1; (repeat first | exact .head _ | apply List.Mem.tail); (focus (intro _; simp; done)); (focus (intro _; simp; done))); clear hK K); simp only [Act.put, List.setIfInBounds_toArray, List.set_cons_succ, List.set_cons_zero])
                | (guard_target =~ wpTreeC _ _ _ _ _ _ _; first | (guard_target =~ wpTreeC _ _ _ (Tr.e _ Tr.nil) _ _ _; refine treeC_last (by kernel_rfl) H rfl rfl (fun w3 H2 K hK => ?_); clear H; (try clear w2); (revert w3; intro w2 H); simp only [List.getElem_toArray, List.getElem_cons_succ, List.getElem_cons_zero]; (first | fail); simp only [Act.put, List.setIfInBounds_toArray, List.set_cons_succ, List.set_cons_zero]) | (guard_target =~ wpTreeC _ _ _ (Tr.q _ _) _ _ _; first | (refine treeC_quiet ⟨_, H, by repeat first | exact .here | apply Suf.there⟩ rfl rfl rfl (fun K hK => ?_); simp only [List.getElem_toArray, List.getElem_cons_succ, List.getElem_cons_zero]; first | (guard_target =~ Oper.quiet _ (Oper.mk _ (.load _ _) _ _ _ _) _ _ _; (refine q_loadNC (row := ?_) rfl rfl ?_ ?_ ?_ (hK _ ?_); rotate_left 1; (repeat first | exact .head _ | apply List.Mem.tail); (focus (intro _; simp; done)); (focus (intro _; simp; done))); clear hK K; simp only [Act.put, List.setIfInBounds_toArray, List.set_cons_succ, List.set_cons_zero]) | (go_big_quiet_op; (try refine ⟨_, fun _ _ => rfl, ?_⟩); refine hK _ ?_; clear hK K)) | (refine treeC_call (v := ?_) ⟨_, H, by repeat first | exact .here | apply Suf.there⟩ rfl rfl (fun w3 H K hK => ?_) ?_; rotate_left 1; (focus (simp only [List.getElem_toArray, List.getElem_cons_succ, List.getElem_cons_zero]; go_big_op; first | (go_at_call 13; (with_reducible refine (hfw _).mono ?_); rintro e w3 ⟨rfl, hb⟩; dsimp only; first | exact hK _ hb | exact hK _ (Ext.refl _)) | (go_at_call 14; (with_reducible refine (awake15_any _).mono ?_); rintro e w3 ⟨rfl, hb⟩; dsimp only; first | exact hK _ hb | exact hK _ (Ext.refl _)) | (go_at_call 16; (with_reducible refine (plain_any _ _ _ _ _ _ _).mono ?_); rintro e w3 ⟨rfl, hb⟩; dsimp only; first | exact hK _ hb | exact hK _ (Ext.refl _)) | (go_at_call 15; (with_reducible refine (hrt _ _ (by first | fail) (by first | fail)).mono ?_); rintro e w3 ⟨rfl, hb⟩; dsimp only; first | exact hK _ hb | exact hK _ (Ext.refl _)) | (go_at_call 26; (with_reducible refine (h1a _ _ (by exact H.giveRd m3 f0) (by exact H.giveRd m2 f9)).mono ?_); rintro e w3 ⟨rfl, hb⟩; dsimp only; first | exact hK _ hb | exact hK _ (Ext.refl _)) | (go_at_call 18; (with_reducible refine (h1l _ _ (by first | fail) (by first | fail)).mono ?_); rintro e w3 ⟨rfl, hb⟩; dsimp only; first | exact hK _ hb | exact hK _ (Ext.refl _)) | (go_at_call 35; (with_reducible refine (h1d _ _ (by exact H.giveRd m7 f0) (by exact H.giveRd m6 f9)).mono ?_); rintro e w3 ⟨rfl, hb⟩; dsimp only; first | exact hK _ hb | exact hK _ (Ext.refl _)) | (go_at_call 37; (with_reducible refine (h1c _ _ (by first | fail) (by first | fail)).mono ?_); rintro e w3 ⟨rfl, hb⟩; dsimp only; first | exact hK _ hb | exact hK _ (Ext.refl _)) | (go_at_call 28; (with_reducible refine (h1s _ _ (by first | fail) (by first | fail)).mono ?_); rintro e w3 ⟨rfl, hb⟩; dsimp only; first | exact hK _ hb | exact hK _ (Ext.refl _)) | (go_at_call 39; (with_reducible refine (hAdd (FW F0 _) _ (H.fw_lt rfl hFF) (by first | fail) (by first | fail)).mono ?_); rintro e w3 ⟨A21, A22, c21, c22, rfl, hb, s21, s22, g21, g22⟩; dsimp only; first | exact hK _ hb | exact hK _ (Ext.refl _)) | (go_at_call 40; (with_reducible refine (hLink (FW F0 _) _ (H.fw_lt rfl hFF) (by first | fail) (by first | fail)).mono ?_); rintro e w3 ⟨A31, A32, c31, c32, rfl, hb, s31, s32, g31, g32⟩; dsimp only; first | exact hK _ hb | exact hK _ (Ext.refl _)) | (go_at_call 15; (with_reducible refine (hRA _ _ _ _ _ _ (by first | fail) (by first | fail) g21 g22).mono ?_); rintro e w3 ⟨rfl, hb⟩; dsimp only; first | exact hK _ hb | exact hK _ (Ext.refl _)) | (go_at_call 15; (with_reducible refine (hRL _ _ _ _ _ _ (by first | fail) (by first | fail) g31 g32).mono ?_); rintro e w3 ⟨rfl, hb⟩; dsimp only; first | exact hK _ hb | exact hK _ (Ext.refl _)) | (go_at_call 41; (with_reducible refine (hDrop (FW F0 _) _ (H.fw_lt rfl hFF) (by first | fail) (by first | fail)).mono ?_); rintro e w3 ⟨A41, A42, c41, c42, rfl, hb, s41, s42, g41, g42⟩; dsimp only; first | exact hK _ hb | exact hK _ (Ext.refl _)) | (go_at_call 15; (with_reducible refine (hRD _ _ _ _ _ _ (by first | fail) (by first | fail) g41 g42).mono ?_); rintro e w3 ⟨rfl, hb⟩; dsimp only; first | exact hK _ hb | exact hK _ (Ext.refl _)))); simp only [List.getElem_toArray, List.getElem_cons_succ, List.getElem_cons_zero, Act.put, List.setIfInBounds_toArray, List.set_cons_succ, List.set_cons_zero]) | (refine treeC_skip ⟨_, H, by repeat first | exact .here | apply Suf.there⟩ rfl rfl ?_; simp only [List.getElem_toArray, List.getElem_cons_succ, List.getElem_cons_zero, Act.put, List.setIfInBounds_toArray, List.set_cons_succ, List.set_cons_zero])) | (guard_target =~ wpTreeC _ _ _ (Tr.both _ _) _ _ _; refine treeC_both ?_ ?_) | (guard_target =~ wpTreeC _ _ _ (Tr.e _ _) _ _ _; first | (refine treeC_one H rfl rfl (fun w3 H2 K hK => ?_); clear H; (try clear w2); (revert w3; intro w2 H); simp only [List.getElem_toArray, List.getElem_cons_succ, List.getElem_cons_zero]; first | ((first | fail); simp only [Act.put, List.setIfInBounds_toArray, List.set_cons_succ, List.set_cons_zero]) | (go_big_op; (skip))) | (refine treeC_one_skip (fun w3 hx => ⟨_, H.ext hx, by repeat first | exact .here | apply Suf.there⟩) rfl rfl (fun w3 hx => ?_); replace H := H.ext hx; clear hx; (try clear w2); revert w3; intro w2 H; simp only [List.getElem_toArray, List.getElem_cons_succ, List.getElem_cons_zero, Act.put, List.setIfInBounds_toArray, List.set_cons_succ, List.set_cons_zero])) | (guard_target =~ wpTreeC _ _ _ Tr.nil _ _ _; refine treeC_nil H (fun w3 H2 => ?_); clear H; (try clear w2); revert w3; intro w2 H)))
              go_ret
              exact ⟨rfl, H.below⟩
            · simp only [Bool.not_true] at n4
              have tk0 : True := trivial
              have tk1 : True := trivial
              go_wp2_with (first
                | (guard_target =~ Code.wp _ (Code.region 12 _ true) _ _ _; refine region_treeC0 12 (G := True) (.q 0 (.q 1 (.q 2 (.q 3 (.q 4 (.q 5 (.q 6 (.q 7 (.q 11 (.q 13 (.e 8 (.q 9 (.e 10 (.q 12 (.q 14 (.q 15 (.q 16 (.q 17 .nil)))))))))))))))))) (by kernel_rfl) (by intro c a d v w h; cases d <;> exact h) (by kernel_rfl) H ⟨trivial⟩ (fun _ w3 H2 => ?_); (clear H; (try clear w2); revert w3; intro w2 H))
                | (guard_target =~ Code.wp _ (Code.region 6 _ true) _ _ _; refine region_treeC0 6 (G := True) (.q 0 (.q 2 (.q 1 (.q 3 (.q 4 .nil))))) (by kernel_rfl) (by intro c a d v w h; cases d <;> exact h) (by kernel_rfl) H ⟨trivial⟩ (fun _ w3 H2 => ?_); (clear H; (try clear w2); revert w3; intro w2 H))
                | (go_at_call 16; (with_reducible refine (plain_any _ _ _ _ _ _ _).mono ?_); rintro e w3 ⟨rfl, hb⟩; replace H := H.ext hb; clear hb; dsimp only; (skip))
                | (go_at_call 15; (with_reducible refine (hrt _ _ (by first | exact H.giveRd m3 f0 | exact H.giveRd m5 f0 | exact H.giveRd m7 f0 | exact H.giveRd m9 f0 | exact H.giveRd m11 f0) (by first | exact H.giveRd m2 f9 | exact H.giveRd m4 f9 | exact H.giveRd m6 f9 | exact H.giveRd m8 f9 | exact H.giveRd m10 f9)).mono ?_); rintro e w3 ⟨rfl, hb⟩; replace H := H.ext hb; clear hb; dsimp only; (skip))
                | (go_at_call 18; (with_reducible refine (h1l _ _ (by exact H.giveRd m3 f0) (by exact H.giveRd m2 f9)).mono ?_); rintro e w3 ⟨rfl, hb⟩; replace H := H.ext hb; clear hb; dsimp only; (skip))
                | (go_at_call 37; (with_reducible refine (h1c _ _ (by exact H.giveRd m9 f0) (by exact H.giveRd m8 f9)).mono ?_); rintro e w3 ⟨rfl, hb⟩; replace H := H.ext hb; clear hb; dsimp only; (skip))
                | (go_at_call 39; (with_reducible refine (hAdd (FW F0 _) _ (H.fw_lt rfl hFF) (by exact H.giveRd m3 f0) (by exact H.giveRd m2 f9)).mono ?_); rintro e w3 ⟨A21, A22, c21, c22, rfl, hb, s21, s22, g21, g22⟩; replace H := H.ext hb; clear hb; obtain ⟨b21, o21, H4, f21⟩ := H.addSl s21; clear H s21; have H := H4; clear H4; replace s22 := H.moreRo rfl s22; obtain ⟨b22, o22, H4, f22⟩ := H.addSl s22; clear H s22; have H := H4; clear H4; dsimp only; (skip))
                | (go_at_call 40; (with_reducible refine (hLink (FW F0 _) _ (H.fw_lt rfl hFF) (by exact H.giveRd m5 f0) (by exact H.giveRd m4 f9)).mono ?_); rintro e w3 ⟨A31, A32, c31, c32, rfl, hb, s31, s32, g31, g32⟩; replace H := H.ext hb; clear hb; obtain ⟨b31, o31, H4, f31⟩ := H.addSl s31; clear H s31; have H := H4; clear H4; replace s32 := H.moreRo rfl s32; obtain ⟨b32, o32, H4, f32⟩ := H.addSl s32; clear H s32; have H := H4; clear H4; dsimp only; (skip))
                | (go_at_call 15; (with_reducible refine (hRA _ _ _ _ _ _ (by first | exact H.giveRd m1 f21 | exact H.giveRd m3 f21 | exact H.giveRd m5 f21 | exact H.giveRd m7 f21) (by first | exact H.giveRd m0 f22 | exact H.giveRd m2 f22 | exact H.giveRd m4 f22 | exact H.giveRd m6 f22) g21 g22).mono ?_); rintro e w3 ⟨rfl, hb⟩; replace H := H.ext hb; clear hb; dsimp only; (skip))
                | (go_at_call 15; (with_reducible refine (hRL _ _ _ _ _ _ (by first | exact H.giveRd m1 f31 | exact H.giveRd m3 f31 | exact H.giveRd m5 f31) (by first | exact H.giveRd m0 f32 | exact H.giveRd m2 f32 | exact H.giveRd m4 f32) g31 g32).mono ?_); rintro e w3 ⟨rfl, hb⟩; replace H := H.ext hb; clear hb; dsimp only; (skip))
                | (go_at_call 41; (with_reducible refine (hDrop (FW F0 _) _ (H.fw_lt rfl hFF) (by exact H.giveRd m7 f0) (by exact H.giveRd m6 f9)).mono ?_); rintro e w3 ⟨A41, A42, c41, c42, rfl, hb, s41, s42, g41, g42⟩; replace H := H.ext hb; clear hb; obtain ⟨b41, o41, H4, f41⟩ := H.addSl s41; clear H s41; have H := H4; clear H4; replace s42 := H.moreRo rfl s42; obtain ⟨b42, o42, H4, f42⟩ := H.addSl s42; clear H s42; have H := H4; clear H4; dsimp only; (refine hK _ _ ⟨_, H, by repeat first | exact .here | apply Suf.there⟩ ?_; clear hK K; (try simp only [Act.put, List.setIfInBounds_toArray, List.set_cons_succ, List.set_cons_zero])))
                | (go_at_call 15; (with_reducible refine (hRD _ _ _ _ _ _ (by first | exact H.giveRd m1 f41 | exact H.giveRd m3 f41) (by first | exact H.giveRd m0 f42 | exact H.giveRd m2 f42) g41 g42).mono ?_); rintro e w3 ⟨rfl, hb⟩; replace H := H.ext hb; clear hb; dsimp only; (refine hK _ _ ⟨_, H, by repeat first | exact .here | apply Suf.there⟩ ?_; clear hK K; (try simp only [Act.put, List.setIfInBounds_toArray, List.set_cons_succ, List.set_cons_zero])))
                | (go_at_call 42; (with_reducible refine (hCut (FW F0 _) _ (H.fw_lt rfl hFF) (by exact H.giveRd m9 f0) (by exact H.giveRd m8 f9)).mono ?_); rintro e w3 ⟨A51, A52, c51, c52, rfl, hb, s51, s52, g51, g52⟩; replace H := H.ext hb; clear hb; obtain ⟨b51, o51, H4, f51⟩ := H.addSl s51; clear H s51; have H := H4; clear H4; replace s52 := H.moreRo rfl s52; obtain ⟨b52, o52, H4, f52⟩ := H.addSl s52; clear H s52; have H := H4; clear H4; dsimp only; (skip))
                | (go_at_call 15; (with_reducible refine (hRC _ _ _ _ _ _ (by exact H.giveRd m1 f51) (by exact H.giveRd m0 f52) g51 g52).mono ?_); rintro e w3 ⟨rfl, hb⟩; replace H := H.ext hb; clear hb; dsimp only; (skip))
                | (guard_target =~ wpList _ _ _ (_ :: _) _ _; (guard_target =~ wpList _ _ _ (Oper.mk _ (.load _ _) _ _ _ _ :: _) _ _; refine BigFrame.wpList_want rfl (fun K hK => ?_); (refine o_loadNC (row := ?_) rfl rfl H ?_ ?_ ?_ (hK _ _ ?_); rotate_left 1; (repeat first | exact .head _ | apply List.Mem.tail); (focus (intro _; simp; done)); (focus (intro _; simp; done))); clear hK K); simp only [Act.put, List.setIfInBounds_toArray, List.set_cons_succ, List.set_cons_zero])
                | (guard_target =~ wpTreeC _ _ _ _ _ _ _; first | (guard_target =~ wpTreeC _ _ _ (Tr.e _ Tr.nil) _ _ _; refine treeC_last (by kernel_rfl) H rfl rfl (fun w3 H2 K hK => ?_); clear H; (try clear w2); (revert w3; intro w2 H); simp only [List.getElem_toArray, List.getElem_cons_succ, List.getElem_cons_zero]; (first | fail); simp only [Act.put, List.setIfInBounds_toArray, List.set_cons_succ, List.set_cons_zero]) | (guard_target =~ wpTreeC _ _ _ (Tr.q _ _) _ _ _; first | (refine treeC_quiet ⟨_, H, by repeat first | exact .here | apply Suf.there⟩ rfl rfl rfl (fun K hK => ?_); simp only [List.getElem_toArray, List.getElem_cons_succ, List.getElem_cons_zero]; first | (guard_target =~ Oper.quiet _ (Oper.mk _ (.load _ _) _ _ _ _) _ _ _; (refine q_loadNC (row := ?_) rfl rfl ?_ ?_ ?_ (hK _ ?_); rotate_left 1; (repeat first | exact .head _ | apply List.Mem.tail); (focus (intro _; simp; done)); (focus (intro _; simp; done))); clear hK K; simp only [Act.put, List.setIfInBounds_toArray, List.set_cons_succ, List.set_cons_zero]) | (go_big_quiet_op; (try refine ⟨_, fun _ _ => rfl, ?_⟩); refine hK _ ?_; clear hK K)) | (refine treeC_call (v := ?_) ⟨_, H, by repeat first | exact .here | apply Suf.there⟩ rfl rfl (fun w3 H K hK => ?_) ?_; rotate_left 1; (focus (simp only [List.getElem_toArray, List.getElem_cons_succ, List.getElem_cons_zero]; go_big_op; first | (go_at_call 13; (with_reducible refine (hfw _).mono ?_); rintro e w3 ⟨rfl, hb⟩; dsimp only; first | exact hK _ hb | exact hK _ (Ext.refl _)) | (go_at_call 14; (with_reducible refine (awake15_any _).mono ?_); rintro e w3 ⟨rfl, hb⟩; dsimp only; first | exact hK _ hb | exact hK _ (Ext.refl _)) | (go_at_call 16; (with_reducible refine (plain_any _ _ _ _ _ _ _).mono ?_); rintro e w3 ⟨rfl, hb⟩; dsimp only; first | exact hK _ hb | exact hK _ (Ext.refl _)) | (go_at_call 15; (with_reducible refine (hrt _ _ (by first | fail) (by first | fail)).mono ?_); rintro e w3 ⟨rfl, hb⟩; dsimp only; first | exact hK _ hb | exact hK _ (Ext.refl _)) | (go_at_call 26; (with_reducible refine (h1a _ _ (by exact H.giveRd m3 f0) (by exact H.giveRd m2 f9)).mono ?_); rintro e w3 ⟨rfl, hb⟩; dsimp only; first | exact hK _ hb | exact hK _ (Ext.refl _)) | (go_at_call 18; (with_reducible refine (h1l _ _ (by first | fail) (by first | fail)).mono ?_); rintro e w3 ⟨rfl, hb⟩; dsimp only; first | exact hK _ hb | exact hK _ (Ext.refl _)) | (go_at_call 35; (with_reducible refine (h1d _ _ (by exact H.giveRd m7 f0) (by exact H.giveRd m6 f9)).mono ?_); rintro e w3 ⟨rfl, hb⟩; dsimp only; first | exact hK _ hb | exact hK _ (Ext.refl _)) | (go_at_call 37; (with_reducible refine (h1c _ _ (by first | fail) (by first | fail)).mono ?_); rintro e w3 ⟨rfl, hb⟩; dsimp only; first | exact hK _ hb | exact hK _ (Ext.refl _)) | (go_at_call 28; (with_reducible refine (h1s _ _ (by first | fail) (by first | fail)).mono ?_); rintro e w3 ⟨rfl, hb⟩; dsimp only; first | exact hK _ hb | exact hK _ (Ext.refl _)) | (go_at_call 39; (with_reducible refine (hAdd (FW F0 _) _ (H.fw_lt rfl hFF) (by first | fail) (by first | fail)).mono ?_); rintro e w3 ⟨A21, A22, c21, c22, rfl, hb, s21, s22, g21, g22⟩; dsimp only; first | exact hK _ hb | exact hK _ (Ext.refl _)) | (go_at_call 40; (with_reducible refine (hLink (FW F0 _) _ (H.fw_lt rfl hFF) (by first | fail) (by first | fail)).mono ?_); rintro e w3 ⟨A31, A32, c31, c32, rfl, hb, s31, s32, g31, g32⟩; dsimp only; first | exact hK _ hb | exact hK _ (Ext.refl _)) | (go_at_call 15; (with_reducible refine (hRA _ _ _ _ _ _ (by first | fail) (by first | fail) g21 g22).mono ?_); rintro e w3 ⟨rfl, hb⟩; dsimp only; first | exact hK _ hb | exact hK _ (Ext.refl _)) | (go_at_call 15; (with_reducible refine (hRL _ _ _ _ _ _ (by first | fail) (by first | fail) g31 g32).mono ?_); rintro e w3 ⟨rfl, hb⟩; dsimp only; first | exact hK _ hb | exact hK _ (Ext.refl _)) | (go_at_call 41; (with_reducible refine (hDrop (FW F0 _) _ (H.fw_lt rfl hFF) (by first | fail) (by first | fail)).mono ?_); rintro e w3 ⟨A41, A42, c41, c42, rfl, hb, s41, s42, g41, g42⟩; dsimp only; first | exact hK _ hb | exact hK _ (Ext.refl _)) | (go_at_call 15; (with_reducible refine (hRD _ _ _ _ _ _ (by first | fail) (by first | fail) g41 g42).mono ?_); rintro e w3 ⟨rfl, hb⟩; dsimp only; first | exact hK _ hb | exact hK _ (Ext.refl _)) | (go_at_call 42; (with_reducible refine (hCut (FW F0 _) _ (H.fw_lt rfl hFF) (by first | fail) (by first | fail)).mono ?_); rintro e w3 ⟨A51, A52, c51, c52, rfl, hb, s51, s52, g51, g52⟩; dsimp only; first | exact hK _ hb | exact hK _ (Ext.refl _)) | (go_at_call 15; (with_reducible refine (hRC _ _ _ _ _ _ (by first | fail) (by first | fail) g51 g52).mono ?_); rintro e w3 ⟨rfl, hb⟩; dsimp only; first | exact hK _ hb | exact hK _ (Ext.refl _)))); simp only [List.getElem_toArray, List.getElem_cons_succ, List.getElem_cons_zero, Act.put, List.setIfInBounds_toArray, List.set_cons_succ, List.set_cons_zero]) | (refine treeC_skip ⟨_, H, by repeat first | exact .here | apply Suf.there⟩ rfl rfl ?_; simp only [List.getElem_toArray, List.getElem_cons_succ, List.getElem_cons_zero, Act.put, List.setIfInBounds_toArray, List.set_cons_succ, List.set_cons_zero])) | (guard_target =~ wpTreeC _ _ _ (Tr.both _ _) _ _ _; refine treeC_both ?_ ?_) | (guard_target =~ wpTreeC _ _ _ (Tr.e _ _) _ _ _; first | (refine treeC_one H rfl rfl (fun w3 H2 K hK => ?_); clear H; (try clear w2); (revert w3; intro w2 H); simp only [List.getElem_toArray, List.getElem_cons_succ, List.getElem_cons_zero]; first | ((first | fail); simp only [Act.put, List.setIfInBounds_toArray, List.set_cons_succ, List.set_cons_zero]) | (go_big_op; (skip))) | (refine treeC_one_skip (fun w3 hx => ⟨_, H.ext hx, by repeat first | exact .here | apply Suf.there⟩) rfl rfl (fun w3 hx => ?_); replace H := H.ext hx; clear hx; (try clear w2); revert w3; intro w2 H; simp only [List.getElem_toArray, List.getElem_cons_succ, List.getElem_cons_zero, Act.put, List.setIfInBounds_toArray, List.set_cons_succ, List.set_cons_zero])) | (guard_target =~ wpTreeC _ _ _ Tr.nil _ _ _; refine treeC_nil H (fun w3 H2 => ?_); clear H; (try clear w2); revert w3; intro w2 H)))
              go_ret
              exact ⟨rfl, H.below⟩
          · clear hRD
            simp only [Bool.not_true] at n6
            cases v4
            · simp only [Bool.not_false] at n4
              have tk0 : True := trivial
              have tk1 : True := trivial
              go_wp2_with (first
                | go_big_skip
                | (guard_target =~ Code.wp _ (Code.region 12 _ true) _ _ _; refine region_treeC0 12 (G := True) (.q 0 (.q 1 (.q 2 (.q 3 (.q 4 (.q 5 (.q 6 (.q 7 (.q 11 (.q 13 (.e 8 (.q 9 (.e 10 (.q 12 (.q 14 (.q 15 (.q 16 (.q 17 .nil)))))))))))))))))) (by kernel_rfl) (by intro c a d v w h; cases d <;> exact h) (by kernel_rfl) H ⟨trivial⟩ (fun _ w3 H2 => ?_); (clear H; (try clear w2); revert w3; intro w2 H))
                | (guard_target =~ Code.wp _ (Code.region 6 _ true) _ _ _; refine region_treeC0 6 (G := True) (.q 0 (.q 2 (.q 1 (.q 3 (.q 4 .nil))))) (by kernel_rfl) (by intro c a d v w h; cases d <;> exact h) (by kernel_rfl) H ⟨trivial⟩ (fun _ w3 H2 => ?_); (clear H; (try clear w2); revert w3; intro w2 H))
                | (go_at_call 16; (with_reducible refine (plain_any _ _ _ _ _ _ _).mono ?_); rintro e w3 ⟨rfl, hb⟩; replace H := H.ext hb; clear hb; dsimp only; (skip))
                | (go_at_call 15; (with_reducible refine (hrt _ _ (by first | exact H.giveRd m3 f0 | exact H.giveRd m5 f0 | exact H.giveRd m7 f0) (by first | exact H.giveRd m2 f9 | exact H.giveRd m4 f9 | exact H.giveRd m6 f9)).mono ?_); rintro e w3 ⟨rfl, hb⟩; replace H := H.ext hb; clear hb; dsimp only; (skip))
                | (go_at_call 18; (with_reducible refine (h1l _ _ (by exact H.giveRd m3 f0) (by exact H.giveRd m2 f9)).mono ?_); rintro e w3 ⟨rfl, hb⟩; replace H := H.ext hb; clear hb; dsimp only; (skip))
                | (go_at_call 37; (with_reducible refine (h1c _ _ (by exact H.giveRd m7 f0) (by exact H.giveRd m6 f9)).mono ?_); rintro e w3 ⟨rfl, hb⟩; replace H := H.ext hb; clear hb; dsimp only; (skip))
                | (go_at_call 39; (with_reducible refine (hAdd (FW F0 _) _ (H.fw_lt rfl hFF) (by exact H.giveRd m3 f0) (by exact H.giveRd m2 f9)).mono ?_); rintro e w3 ⟨A21, A22, c21, c22, rfl, hb, s21, s22, g21, g22⟩; replace H := H.ext hb; clear hb; obtain ⟨b21, o21, H4, f21⟩ := H.addSl s21; clear H s21; have H := H4; clear H4; replace s22 := H.moreRo rfl s22; obtain ⟨b22, o22, H4, f22⟩ := H.addSl s22; clear H s22; have H := H4; clear H4; dsimp only; (skip))
                | (go_at_call 40; (with_reducible refine (hLink (FW F0 _) _ (H.fw_lt rfl hFF) (by exact H.giveRd m5 f0) (by exact H.giveRd m4 f9)).mono ?_); rintro e w3 ⟨A31, A32, c31, c32, rfl, hb, s31, s32, g31, g32⟩; replace H := H.ext hb; clear hb; obtain ⟨b31, o31, H4, f31⟩ := H.addSl s31; clear H s31; have H := H4; clear H4; replace s32 := H.moreRo rfl s32; obtain ⟨b32, o32, H4, f32⟩ := H.addSl s32; clear H s32; have H := H4; clear H4; dsimp only; (skip))
                | (go_at_call 15; (with_reducible refine (hRA _ _ _ _ _ _ (by first | exact H.giveRd m1 f21 | exact H.giveRd m3 f21) (by first | exact H.giveRd m0 f22 | exact H.giveRd m2 f22) g21 g22).mono ?_); rintro e w3 ⟨rfl, hb⟩; replace H := H.ext hb; clear hb; dsimp only; (skip))
                | (go_at_call 15; (with_reducible refine (hRL _ _ _ _ _ _ (by exact H.giveRd m1 f31) (by exact H.giveRd m0 f32) g31 g32).mono ?_); rintro e w3 ⟨rfl, hb⟩; replace H := H.ext hb; clear hb; dsimp only; (skip))
                | (guard_target =~ wpList _ _ _ (_ :: _) _ _; (guard_target =~ wpList _ _ _ (Oper.mk _ (.load _ _) _ _ _ _ :: _) _ _; refine BigFrame.wpList_want rfl (fun K hK => ?_); (refine o_loadNC (row := ?_) rfl rfl H ?_ ?_ ?_ (hK _ _ ?_); rotate_left 1; (repeat first | exact .head _ | apply List.Mem.tail); (focus (intro _; simp; done)); (focus (intro _; simp; done))); clear hK K); simp only [Act.put, List.setIfInBounds_toArray, List.set_cons_succ, List.set_cons_zero])
                | (guard_target =~ wpTreeC _ _ _ _ _ _ _; first | (guard_target =~ wpTreeC _ _ _ (Tr.e _ Tr.nil) _ _ _; refine treeC_last (by kernel_rfl) H rfl rfl (fun w3 H2 K hK => ?_); clear H; (try clear w2); (revert w3; intro w2 H); simp only [List.getElem_toArray, List.getElem_cons_succ, List.getElem_cons_zero]; (first | fail); simp only [Act.put, List.setIfInBounds_toArray, List.set_cons_succ, List.set_cons_zero]) | (guard_target =~ wpTreeC _ _ _ (Tr.q _ _) _ _ _; first | (refine treeC_quiet ⟨_, H, by repeat first | exact .here | apply Suf.there⟩ rfl rfl rfl (fun K hK => ?_); simp only [List.getElem_toArray, List.getElem_cons_succ, List.getElem_cons_zero]; first | (guard_target =~ Oper.quiet _ (Oper.mk _ (.load _ _) _ _ _ _) _ _ _; (refine q_loadNC (row := ?_) rfl rfl ?_ ?_ ?_ (hK _ ?_); rotate_left 1; (repeat first | exact .head _ | apply List.Mem.tail); (focus (intro _; simp; done)); (focus (intro _; simp; done))); clear hK K; simp only [Act.put, List.setIfInBounds_toArray, List.set_cons_succ, List.set_cons_zero]) | (go_big_quiet_op; (try refine ⟨_, fun _ _ => rfl, ?_⟩); refine hK _ ?_; clear hK K)) | (refine treeC_call (v := ?_) ⟨_, H, by repeat first | exact .here | apply Suf.there⟩ rfl rfl (fun w3 H K hK => ?_) ?_; rotate_left 1; (focus (simp only [List.getElem_toArray, List.getElem_cons_succ, List.getElem_cons_zero]; go_big_op; first | (go_at_call 13; (with_reducible refine (hfw _).mono ?_); rintro e w3 ⟨rfl, hb⟩; dsimp only; first | exact hK _ hb | exact hK _ (Ext.refl _)) | (go_at_call 14; (with_reducible refine (awake15_any _).mono ?_); rintro e w3 ⟨rfl, hb⟩; dsimp only; first | exact hK _ hb | exact hK _ (Ext.refl _)) | (go_at_call 16; (with_reducible refine (plain_any _ _ _ _ _ _ _).mono ?_); rintro e w3 ⟨rfl, hb⟩; dsimp only; first | exact hK _ hb | exact hK _ (Ext.refl _)) | (go_at_call 15; (with_reducible refine (hrt _ _ (by first | fail) (by first | fail)).mono ?_); rintro e w3 ⟨rfl, hb⟩; dsimp only; first | exact hK _ hb | exact hK _ (Ext.refl _)) | (go_at_call 26; (with_reducible refine (h1a _ _ (by exact H.giveRd m3 f0) (by exact H.giveRd m2 f9)).mono ?_); rintro e w3 ⟨rfl, hb⟩; dsimp only; first | exact hK _ hb | exact hK _ (Ext.refl _)) | (go_at_call 18; (with_reducible refine (h1l _ _ (by first | fail) (by first | fail)).mono ?_); rintro e w3 ⟨rfl, hb⟩; dsimp only; first | exact hK _ hb | exact hK _ (Ext.refl _)) | (go_at_call 35; (with_reducible refine (h1d _ _ (by exact H.giveRd m7 f0) (by exact H.giveRd m6 f9)).mono ?_); rintro e w3 ⟨rfl, hb⟩; dsimp only; first | exact hK _ hb | exact hK _ (Ext.refl _)) | (go_at_call 37; (with_reducible refine (h1c _ _ (by first | fail) (by first | fail)).mono ?_); rintro e w3 ⟨rfl, hb⟩; dsimp only; first | exact hK _ hb | exact hK _ (Ext.refl _)) | (go_at_call 28; (with_reducible refine (h1s _ _ (by first | fail) (by first | fail)).mono ?_); rintro e w3 ⟨rfl, hb⟩; dsimp only; first | exact hK _ hb | exact hK _ (Ext.refl _)) | (go_at_call 39; (with_reducible refine (hAdd (FW F0 _) _ (H.fw_lt rfl hFF) (by first | fail) (by first | fail)).mono ?_); rintro e w3 ⟨A21, A22, c21, c22, rfl, hb, s21, s22, g21, g22⟩; dsimp only; first | exact hK _ hb | exact hK _ (Ext.refl _)) | (go_at_call 40; (with_reducible refine (hLink (FW F0 _) _ (H.fw_lt rfl hFF) (by first | fail) (by first | fail)).mono ?_); rintro e w3 ⟨A31, A32, c31, c32, rfl, hb, s31, s32, g31, g32⟩; dsimp only; first | exact hK _ hb | exact hK _ (Ext.refl _)) | (go_at_call 15; (with_reducible refine (hRA _ _ _ _ _ _ (by first | fail) (by first | fail) g21 g22).mono ?_); rintro e w3 ⟨rfl, hb⟩; dsimp only; first | exact hK _ hb | exact hK _ (Ext.refl _)) | (go_at_call 15; (with_reducible refine (hRL _ _ _ _ _ _ (by first | fail) (by first | fail) g31 g32).mono ?_); rintro e w3 ⟨rfl, hb⟩; dsimp only; first | exact hK _ hb | exact hK _ (Ext.refl _)))); simp only [List.getElem_toArray, List.getElem_cons_succ, List.getElem_cons_zero, Act.put, List.setIfInBounds_toArray, List.set_cons_succ, List.set_cons_zero]) | (refine treeC_skip ⟨_, H, by repeat first | exact .here | apply Suf.there⟩ rfl rfl ?_; simp only [List.getElem_toArray, List.getElem_cons_succ, List.getElem_cons_zero, Act.put, List.setIfInBounds_toArray, List.set_cons_succ, List.set_cons_zero])) | (guard_target =~ wpTreeC _ _ _ (Tr.both _ _) _ _ _; refine treeC_both ?_ ?_) | (guard_target =~ wpTreeC _ _ _ (Tr.e _ _) _ _ _; first | (refine treeC_one H rfl rfl (fun w3 H2 K hK => ?_); clear H; (try clear w2); (revert w3; intro w2 H); simp only [List.getElem_toArray, List.getElem_cons_succ, List.getElem_cons_zero]; first | ((first | fail); simp only [Act.put, List.setIfInBounds_toArray, List.set_cons_succ, List.set_cons_zero]) | (go_big_op; (first | fail))) | (refine treeC_one_skip (fun w3 hx => ⟨_, H.ext hx, by repeat first | exact .here | apply Suf.there⟩) rfl rfl (fun w3 hx => ?_); replace H := H.ext hx; clear hx; (try clear w2); revert w3; intro w2 H; simp only [List.getElem_toArray, List.getElem_cons_succ, List.getElem_cons_zero, Act.put, List.setIfInBounds_toArray, List.set_cons_succ, List.set_cons_zero])) | (guard_target =~ wpTreeC _ _ _ Tr.nil _ _ _; refine treeC_nil H (fun w3 H2 => ?_); clear H; (try clear w2); revert w3; intro w2 H)))
              go_ret
              exact ⟨rfl, H.below⟩
            · simp only [Bool.not_true] at n4
              have tk0 : True := trivial
              have tk1 : True := trivial
              go_wp2_with (first
                | (guard_target =~ Code.wp _ (Code.region 12 _ true) _ _ _; refine region_treeC0 12 (G := True) (.q 0 (.q 1 (.q 2 (.q 3 (.q 4 (.q 5 (.q 6 (.q 7 (.q 11 (.q 13 (.e 8 (.q 9 (.e 10 (.q 12 (.q 14 (.q 15 (.q 16 (.q 17 .nil)))))))))))))))))) (by kernel_rfl) (by intro c a d v w h; cases d <;> exact h) (by kernel_rfl) H ⟨trivial⟩ (fun _ w3 H2 => ?_); (clear H; (try clear w2); revert w3; intro w2 H))
                | (guard_target =~ Code.wp _ (Code.region 6 _ true) _ _ _; refine region_treeC0 6 (G := True) (.q 0 (.q 2 (.q 1 (.q 3 (.q 4 .nil))))) (by kernel_rfl) (by intro c a d v w h; cases d <;> exact h) (by kernel_rfl) H ⟨trivial⟩ (fun _ w3 H2 => ?_); (clear H; (try clear w2); revert w3; intro w2 H))
                | (go_at_call 16; (with_reducible refine (plain_any _ _ _ _ _ _ _).mono ?_); rintro e w3 ⟨rfl, hb⟩; replace H := H.ext hb; clear hb; dsimp only; (skip))
                | (go_at_call 15; (with_reducible refine (hrt _ _ (by first | exact H.giveRd m3 f0 | exact H.giveRd m5 f0 | exact H.giveRd m7 f0 | exact H.giveRd m9 f0) (by first | exact H.giveRd m2 f9 | exact H.giveRd m4 f9 | exact H.giveRd m6 f9 | exact H.giveRd m8 f9)).mono ?_); rintro e w3 ⟨rfl, hb⟩; replace H := H.ext hb; clear hb; dsimp only; (skip))
                | (go_at_call 18; (with_reducible refine (h1l _ _ (by exact H.giveRd m3 f0) (by exact H.giveRd m2 f9)).mono ?_); rintro e w3 ⟨rfl, hb⟩; replace H := H.ext hb; clear hb; dsimp only; (skip))
                | (go_at_call 37; (with_reducible refine (h1c _ _ (by exact H.giveRd m7 f0) (by exact H.giveRd m6 f9)).mono ?_); rintro e w3 ⟨rfl, hb⟩; replace H := H.ext hb; clear hb; dsimp only; (skip))
                | (go_at_call 39; (with_reducible refine (hAdd (FW F0 _) _ (H.fw_lt rfl hFF) (by exact H.giveRd m3 f0) (by exact H.giveRd m2 f9)).mono ?_); rintro e w3 ⟨A21, A22, c21, c22, rfl, hb, s21, s22, g21, g22⟩; replace H := H.ext hb; clear hb; obtain ⟨b21, o21, H4, f21⟩ := H.addSl s21; clear H s21; have H := H4; clear H4; replace s22 := H.moreRo rfl s22; obtain ⟨b22, o22, H4, f22⟩ := H.addSl s22; clear H s22; have H := H4; clear H4; dsimp only; (skip))
                | (go_at_call 40; (with_reducible refine (hLink (FW F0 _) _ (H.fw_lt rfl hFF) (by exact H.giveRd m5 f0) (by exact H.giveRd m4 f9)).mono ?_); rintro e w3 ⟨A31, A32, c31, c32, rfl, hb, s31, s32, g31, g32⟩; replace H := H.ext hb; clear hb; obtain ⟨b31, o31, H4, f31⟩ := H.addSl s31; clear H s31; have H := H4; clear H4; replace s32 := H.moreRo rfl s32; obtain ⟨b32, o32, H4, f32⟩ := H.addSl s32; clear H s32; have H := H4; clear H4; dsimp only; (skip))
                | (go_at_call 15; (with_reducible refine (hRA _ _ _ _ _ _ (by first | exact H.giveRd m1 f21 | exact H.giveRd m3 f21 | exact H.giveRd m5 f21) (by first | exact H.giveRd m0 f22 | exact H.giveRd m2 f22 | exact H.giveRd m4 f22) g21 g22).mono ?_); rintro e w3 ⟨rfl, hb⟩; replace H := H.ext hb; clear hb; dsimp only; (skip))
                | (go_at_call 15; (with_reducible refine (hRL _ _ _ _ _ _ (by first | exact H.giveRd m1 f31 | exact H.giveRd m3 f31) (by first | exact H.giveRd m0 f32 | exact H.giveRd m2 f32) g31 g32).mono ?_); rintro e w3 ⟨rfl, hb⟩; replace H := H.ext hb; clear hb; dsimp only; (skip))
                | (go_at_call 42; (with_reducible refine (hCut (FW F0 _) _ (H.fw_lt rfl hFF) (by exact H.giveRd m7 f0) (by exact H.giveRd m6 f9)).mono ?_); rintro e w3 ⟨A51, A52, c51, c52, rfl, hb, s51, s52, g51, g52⟩; replace H := H.ext hb; clear hb; obtain ⟨b51, o51, H4, f51⟩ := H.addSl s51; clear H s51; have H := H4; clear H4; replace s52 := H.moreRo rfl s52; obtain ⟨b52, o52, H4, f52⟩ := H.addSl s52; clear H s52; have H := H4; clear H4; dsimp only; (skip))
                | (go_at_call 15; (with_reducible refine (hRC _ _ _ _ _ _ (by exact H.giveRd m1 f51) (by exact H.giveRd m0 f52) g51 g52).mono ?_); rintro e w3 ⟨rfl, hb⟩; replace H := H.ext hb; clear hb; dsimp only; (skip))
                | (guard_target =~ wpList _ _ _ (_ :: _) _ _; (guard_target =~ wpList _ _ _ (Oper.mk _ (.load _ _) _ _ _ _ :: _) _ _; refine BigFrame.wpList_want rfl (fun K hK => ?_); (refine o_loadNC (row := ?_) rfl rfl H ?_ ?_ ?_ (hK _ _ ?_); rotate_left 1; (repeat first | exact .head _ | apply List.Mem.tail); (focus (intro _; simp; done)); (focus (intro _; simp; done))); clear hK K); simp only [Act.put, List.setIfInBounds_toArray, List.set_cons_succ, List.set_cons_zero])
                | (guard_target =~ wpTreeC _ _ _ _ _ _ _; first | (guard_target =~ wpTreeC _ _ _ (Tr.e _ Tr.nil) _ _ _; refine treeC_last (by kernel_rfl) H rfl rfl (fun w3 H2 K hK => ?_); clear H; (try clear w2); (revert w3; intro w2 H); simp only [List.getElem_toArray, List.getElem_cons_succ, List.getElem_cons_zero]; (first | fail); simp only [Act.put, List.setIfInBounds_toArray, List.set_cons_succ, List.set_cons_zero]) | (guard_target =~ wpTreeC _ _ _ (Tr.q _ _) _ _ _; first | (refine treeC_quiet ⟨_, H, by repeat first | exact .here | apply Suf.there⟩ rfl rfl rfl (fun K hK => ?_); simp only [List.getElem_toArray, List.getElem_cons_succ, List.getElem_cons_zero]; first | (guard_target =~ Oper.quiet _ (Oper.mk _ (.load _ _) _ _ _ _) _ _ _; (refine q_loadNC (row := ?_) rfl rfl ?_ ?_ ?_ (hK _ ?_); rotate_left 1; (repeat first | exact .head _ | apply List.Mem.tail); (focus (intro _; simp; done)); (focus (intro _; simp; done))); clear hK K; simp only [Act.put, List.setIfInBounds_toArray, List.set_cons_succ, List.set_cons_zero]) | (go_big_quiet_op; (try refine ⟨_, fun _ _ => rfl, ?_⟩); refine hK _ ?_; clear hK K)) | (refine treeC_call (v := ?_) ⟨_, H, by repeat first | exact .here | apply Suf.there⟩ rfl rfl (fun w3 H K hK => ?_) ?_; rotate_left 1; (focus (simp only [List.getElem_toArray, List.getElem_cons_succ, List.getElem_cons_zero]; go_big_op; first | (go_at_call 13; (with_reducible refine (hfw _).mono ?_); rintro e w3 ⟨rfl, hb⟩; dsimp only; first | exact hK _ hb | exact hK _ (Ext.refl _)) | (go_at_call 14; (with_reducible refine (awake15_any _).mono ?_); rintro e w3 ⟨rfl, hb⟩; dsimp only; first | exact hK _ hb | exact hK _ (Ext.refl _)) | (go_at_call 16; (with_reducible refine (plain_any _ _ _ _ _ _ _).mono ?_); rintro e w3 ⟨rfl, hb⟩; dsimp only; first | exact hK _ hb | exact hK _ (Ext.refl _)) | (go_at_call 15; (with_reducible refine (hrt _ _ (by first | fail) (by first | fail)).mono ?_); rintro e w3 ⟨rfl, hb⟩; dsimp only; first | exact hK _ hb | exact hK _ (Ext.refl _)) | (go_at_call 26; (with_reducible refine (h1a _ _ (by exact H.giveRd m3 f0) (by exact H.giveRd m2 f9)).mono ?_); rintro e w3 ⟨rfl, hb⟩; dsimp only; first | exact hK _ hb | exact hK _ (Ext.refl _)) | (go_at_call 18; (with_reducible refine (h1l _ _ (by first | fail) (by first | fail)).mono ?_); rintro e w3 ⟨rfl, hb⟩; dsimp only; first | exact hK _ hb | exact hK _ (Ext.refl _)) | (go_at_call 35; (with_reducible refine (h1d _ _ (by exact H.giveRd m7 f0) (by exact H.giveRd m6 f9)).mono ?_); rintro e w3 ⟨rfl, hb⟩; dsimp only; first | exact hK _ hb | exact hK _ (Ext.refl _)) | (go_at_call 37; (with_reducible refine (h1c _ _ (by first | fail) (by first | fail)).mono ?_); rintro e w3 ⟨rfl, hb⟩; dsimp only; first | exact hK _ hb | exact hK _ (Ext.refl _)) | (go_at_call 28; (with_reducible refine (h1s _ _ (by first | fail) (by first | fail)).mono ?_); rintro e w3 ⟨rfl, hb⟩; dsimp only; first | exact hK _ hb | exact hK _ (Ext.refl _)) | (go_at_call 39; (with_reducible refine (hAdd (FW F0 _) _ (H.fw_lt rfl hFF) (by first | fail) (by first | fail)).mono ?_); rintro e w3 ⟨A21, A22, c21, c22, rfl, hb, s21, s22, g21, g22⟩; dsimp only; first | exact hK _ hb | exact hK _ (Ext.refl _)) | (go_at_call 40; (with_reducible refine (hLink (FW F0 _) _ (H.fw_lt rfl hFF) (by first | fail) (by first | fail)).mono ?_); rintro e w3 ⟨A31, A32, c31, c32, rfl, hb, s31, s32, g31, g32⟩; dsimp only; first | exact hK _ hb | exact hK _ (Ext.refl _)) | (go_at_call 15; (with_reducible refine (hRA _ _ _ _ _ _ (by first | fail) (by first | fail) g21 g22).mono ?_); rintro e w3 ⟨rfl, hb⟩; dsimp only; first | exact hK _ hb | exact hK _ (Ext.refl _)) | (go_at_call 15; (with_reducible refine (hRL _ _ _ _ _ _ (by first | fail) (by first | fail) g31 g32).mono ?_); rintro e w3 ⟨rfl, hb⟩; dsimp only; first | exact hK _ hb | exact hK _ (Ext.refl _)) | (go_at_call 42; (with_reducible refine (hCut (FW F0 _) _ (H.fw_lt rfl hFF) (by first | fail) (by first | fail)).mono ?_); rintro e w3 ⟨A51, A52, c51, c52, rfl, hb, s51, s52, g51, g52⟩; dsimp only; first | exact hK _ hb | exact hK _ (Ext.refl _)) | (go_at_call 15; (with_reducible refine (hRC _ _ _ _ _ _ (by first | fail) (by first | fail) g51 g52).mono ?_); rintro e w3 ⟨rfl, hb⟩; dsimp only; first | exact hK _ hb | exact hK _ (Ext.refl _)))); simp only [List.getElem_toArray, List.getElem_cons_succ, List.getElem_cons_zero, Act.put, List.setIfInBounds_toArray, List.set_cons_succ, List.set_cons_zero]) | (refine treeC_skip ⟨_, H, by repeat first | exact .here | apply Suf.there⟩ rfl rfl ?_; simp only [List.getElem_toArray, List.getElem_cons_succ, List.getElem_cons_zero, Act.put, List.setIfInBounds_toArray, List.set_cons_succ, List.set_cons_zero])) | (guard_target =~ wpTreeC _ _ _ (Tr.both _ _) _ _ _; refine treeC_both ?_ ?_) | (guard_target =~ wpTreeC _ _ _ (Tr.e _ _) _ _ _; first | (refine treeC_one H rfl rfl (fun w3 H2 K hK => ?_); clear H; (try clear w2); (revert w3; intro w2 H); simp only [List.getElem_toArray, List.getElem_cons_succ, List.getElem_cons_zero]; first | ((first | fail); simp only [Act.put, List.setIfInBounds_toArray, List.set_cons_succ, List.set_cons_zero]) | (go_big_op; (first | fail))) | (refine treeC_one_skip (fun w3 hx => ⟨_, H.ext hx, by repeat first | exact .here | apply Suf.there⟩) rfl rfl (fun w3 hx => ?_); replace H := H.ext hx; clear hx; (try clear w2); revert w3; intro w2 H; simp only [List.getElem_toArray, List.getElem_cons_succ, List.getElem_cons_zero, Act.put, List.setIfInBounds_toArray, List.set_cons_succ, List.set_cons_zero])) | (guard_target =~ wpTreeC _ _ _ Tr.nil _ _ _; refine treeC_nil H (fun w3 H2 => ?_); clear H; (try clear w2); revert w3; intro w2 H)))
              go_ret
              exact ⟨rfl, H.below⟩
      · have tk0 : True := trivial
        have tk1 : True := trivial
        go_wp2_with (first | fail)
        go_ret
        exact ⟨rfl, H.below⟩
end Go.Proofs.Ytbdmfmdkcjfjdaa
