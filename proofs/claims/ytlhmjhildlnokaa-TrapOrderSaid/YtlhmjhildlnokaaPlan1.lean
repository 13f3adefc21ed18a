/-
  The walks of plan: ends, whether a vertex lies on a line.
-/
import Derived.Test.YtlhmjhildlnokaaPlan0
namespace Go.Proofs.Ytlhmjhildlnokaa
set_option linter.unusedVariables false
set_option linter.unusedSimpArgs false
open Go.RowKit

set_option maxRecDepth 100000 in
set_option maxHeartbeats 4000000 in
theorem ends_any (i a b : Int) (w : World) :
    Calls Try.prog 56 #[v3 i a b] w fun e w' => e = .returned (pV (min a b) (max a b)) ∧ Below w.heap.size w w' := by
  have H := Own.start w
  obtain ⟨p, hp⟩ : ∃ p, min a b = p := ⟨_, rfl⟩
  obtain ⟨q, hq⟩ : ∃ q, max a b = q := ⟨_, rfl⟩
  rw [hp, hq]
  go_enter Try.func56, Try.ntmps56
  have tk0 : True := trivial
  have tk1 : True := trivial
  go_wp2_with (guard_target =~ wpList _ _ _ (_ :: _) _ _; (first | (guard_target =~ wpList _ _ _ (Oper.mk _ (.load _ _) _ _ _ _ :: _) _ _; refine BigFrame.wpList_want rfl (fun K hK => ?_); (refine o_loadC (v := ?_) (row := ?_) rfl rfl H ?_ ?_ ?_ (hK _ _ ?_); rotate_left 2; (repeat first | exact .head _ | apply List.Mem.tail); (exact rfl); (focus (intro _; simp; done))); clear hK K) | (guard_target =~ wpList _ _ _ (Oper.mk _ (.store _ _ _) _ _ _ _ :: _) _ _; refine BigFrame.wpList_want rfl (fun K hK => ?_); refine o_store (l' := ?_) (row := ?_) rfl rfl H rfl ?_ ?_ ?_ ?_ (fun w3 H2 => hK _ _ ?_); rotate_left 2; (exact r0); (focus (intro _; simp [Act.eval, Value.cells]; done)); (focus (simp [Act.eval, Value.cells]; done)); (exact rfl); clear hK K; clear H; (try clear w2); revert w3; intro w2 H; simp [Act.eval, Value.cells, setL, List.getD] at H) | ((first | (guard_target =~ wpList _ _ _ (Oper.mk _ (.alloc _) _ _ _ _ :: _) _ _; refine BigFrame.wpList_want rfl (fun K hK => ?_); refine o_alloc (z := ?_) rfl ?_ H rfl (fun w3 b2 he H2 => hK _ _ ?_); rotate_left 1; (focus (intro _; simp; with_reducible exact rfl))) | (guard_target =~ wpList _ _ _ (Oper.mk _ (.box _ _) _ _ _ _ :: _) _ _; refine BigFrame.wpList_want rfl (fun K hK => ?_); refine o_box rfl H rfl (fun w3 b2 he H2 => hK _ _ ?_))); clear hK K he; clear H; (try clear w2); revert w3; intro w2 H; simp [Act.eval, Value.cells, setL, List.getD] at H; (first | (clear tk0; rename Nat => b1) | (clear tk1; rename Nat => b2)))); simp only [Act.put, List.setIfInBounds_toArray, List.set_cons_succ, List.set_cons_zero])
  all_goals
    have e1 : (if b < a then b else a) = p := by rw [← hp]; split <;> omega
    have e2 : (if a < b then b else a) = q := by rw [← hq]; split <;> omega
    rw [e1, e2] at H
    have hr := H.loadVarN (P := Try.prog) (ty := 102) m0 (by simp) (by simp)
    exact bodyPost_ret (v := pV p q) (by simp [results, Try.results56, asAddr, hr]) rfl ⟨rfl, H.below⟩
set_option maxRecDepth 100000 in
set_option maxHeartbeats 4000000 in
theorem onWay_any (vs : List Vt) (A A2 : Option Addr) (n m : Nat) (c c2 : Nat) (F : Nat → Prop) (ax ay bx b_y : Int) (w : World) (hn : n = vs.length) (hs : Sl F w A (vR vs)) (hl : n ≤ 1000000) :
    Calls Try.prog 57 #[.agg #[.slice A n c, .slice A2 m c2], pV ax ay, pV bx b_y] w fun e w' => e = .returned (.bool (vs.any fun v => onB v.p ⟨ax, ay⟩ ⟨bx, b_y⟩)) ∧ Below w.heap.size w w' := by
  obtain ⟨v, hv⟩ : ∃ v, (vs.any fun v => onB v.p ⟨ax, ay⟩ ⟨bx, b_y⟩) = v := ⟨_, rfl⟩
  have HV := Lib.hid hv
  rw [hv]; clear hv
  obtain ⟨b0, o0, H, f0⟩ := (Own.start w).addSl (hs.ro (by rfl))
  clear hs
  subst hn
  generalize hf : (fun v : Vt => onB v.p ⟨ax, ay⟩ ⟨bx, b_y⟩) = f at HV
  go_enter Try.func57, Try.ntmps57
  have tk0 : True := trivial
  have tk1 : True := trivial
  have tk2 : True := trivial
  go_wp2_with (guard_target =~ wpList _ _ _ (_ :: _) _ _; (first | (guard_target =~ wpList _ _ _ (Oper.mk _ (.load _ _) _ _ _ _ :: _) _ _; refine BigFrame.wpList_want rfl (fun K hK => ?_); (refine o_loadC (v := ?_) (row := ?_) rfl rfl H ?_ ?_ ?_ (hK _ _ ?_); rotate_left 2; (repeat first | exact .head _ | apply List.Mem.tail); (exact rfl); (focus (intro _; simp; done))); clear hK K) | ((guard_target =~ wpList _ _ _ (Oper.mk _ (.box _ _) _ _ _ _ :: _) _ _; refine BigFrame.wpList_want rfl (fun K hK => ?_); refine o_box rfl H rfl (fun w3 b2 he H2 => hK _ _ ?_)); clear hK K he; clear H; (try clear w2); revert w3; intro w2 H; simp [Act.eval, Value.cells, setL, List.getD] at H; (first | (clear tk0; rename Nat => b1) | (clear tk1; rename Nat => b2) | (clear tk2; rename Nat => b3)))); simp only [Act.put, List.setIfInBounds_toArray, List.set_cons_succ, List.set_cons_zero])
  go_loopg [12] vs.length (fun k i wr => k ≤ vs.length ∧ i = .int .i64 ((vs.length - k : Nat) : Int) ∧ (vs.take (vs.length - k)).any f = false ∧ Own w.heap.size w wr [.cells b3 [.int .i64 bx, .int .i64 b_y], .cells b2 [.int .i64 ax, .int .i64 ay], .cells b1 [.slice A vs.length c, .slice A2 m c2], .rd A b0 o0 (vR vs)])
  case atStart => exact ⟨Nat.le_refl _, by simp, by simp, H⟩
  case round =>
    clear H
    obtain ⟨hk, rfl, ht, H⟩ := hrel
    have HT := Lib.hid ht
    clear ht
    by_cases hlt : 0 < gk
    · obtain ⟨j, hj⟩ : ∃ j, vs.length - gk = j := ⟨_, rfl⟩
      have hjl : j < vs.length := by omega
      rw [hj] at HT ⊢
      obtain ⟨i, x, y, he⟩ := vt_at vs hjl
      obtain rfl := H.rdAddr m3 (vR_pos he)
      have hp := at_v (A := some ⟨b0, o0, none⟩) (b := b0) (off := o0) he
      have hon := on_any x y ax ay bx b_y
      obtain ⟨v1, hv1⟩ : ∃ v, onB ⟨x, y⟩ ⟨ax, ay⟩ ⟨bx, b_y⟩ = v := ⟨_, rfl⟩
      have hfv : f ⟨i, ⟨x, y⟩⟩ = v1 := by rw [← hf]; exact hv1
      rw [hv1] at hon
      have HF := Lib.hid hfv
      have HE := Lib.hid he
      have HJ := Lib.hid hj
      clear hv1 hfv he hj hf
      cases v1
      · have tk0 : True := trivial
        go_wp2_with (first
          | (go_at_call 79; (with_reducible refine (hon _).mono ?_); rintro e w3 ⟨rfl, hb⟩; replace H := H.ext hb; clear hb; dsimp only)
          | (guard_target =~ wpList _ _ _ (_ :: _) _ _; (first | (guard_target =~ wpList _ _ _ (Oper.mk _ (.load _ _) _ _ _ _ :: _) _ _; refine BigFrame.wpList_want rfl (fun K hK => ?_); (first | (refine o_loadPt (n := ?_) (d := ?_) rfl rfl H ?_ ?_ ?_ (hK _ _ ?_); rotate_left 2; (repeat first | exact .head _ | apply List.Mem.tail); (focus (intro _; simp; done)); (focus (intro _; simp; done))) | (refine o_loadN (cs := ?_) (r := ?_) rfl rfl H ?_ ?_ ?_ ?_ (hK _ _ ?_); rotate_left 2; (with_reducible assumption); (repeat first | exact .head _ | apply List.Mem.tail); (focus (intro _; simp; done)); (focus (intro _; simp; done))) | (refine o_loadNC (row := ?_) rfl rfl H ?_ ?_ ?_ (hK _ _ ?_); rotate_left 1; (repeat first | exact .head _ | apply List.Mem.tail); (focus (intro _; simp; done)); (focus (intro _; simp; done)))); clear hK K) | (guard_target =~ wpList _ _ _ (Oper.mk _ (.store _ _ _) _ _ _ _ :: _) _ _; refine BigFrame.wpList_want rfl (fun K hK => ?_); refine o_store (l' := ?_) (row := ?_) rfl rfl H rfl ?_ ?_ ?_ ?_ (fun w3 H2 => hK _ _ ?_); rotate_left 2; (exact r0); (focus (intro _; simp [Act.eval, Value.cells]; done)); (focus (simp [Act.eval, Value.cells]; done)); (exact rfl); clear hK K; clear H; (try clear w2); revert w3; intro w2 H; simp [Act.eval, Value.cells, setL, List.getD] at H) | ((guard_target =~ wpList _ _ _ (Oper.mk _ (.alloc _) _ _ _ _ :: _) _ _; refine BigFrame.wpList_want rfl (fun K hK => ?_); refine o_alloc (z := ?_) rfl ?_ H rfl (fun w3 b2 he H2 => hK _ _ ?_); rotate_left 1; (focus (intro _; simp; with_reducible exact rfl))); clear hK K he; clear H; (try clear w2); revert w3; intro w2 H; simp [Act.eval, Value.cells, setL, List.getD] at H; (clear tk0; rename Nat => b4))); simp only [Act.put, List.setIfInBounds_toArray, List.set_cons_succ, List.set_cons_zero]))
        go_roundg (gk - 1)
        case rel => exact ⟨by omega, by have := HJ.out; congr 1; omega, by rw [show vs.length - (gk - 1) = j + 1 by have := HJ.out; omega]; exact any_step HE.out HT.out HF.out, H.tail⟩
        case measure => omega
      · have tk0 : True := trivial
        go_wp2_with (first
          | (go_at_call 79; (with_reducible refine (hon _).mono ?_); rintro e w3 ⟨rfl, hb⟩; replace H := H.ext hb; clear hb; dsimp only)
          | (guard_target =~ wpList _ _ _ (_ :: _) _ _; (first | (guard_target =~ wpList _ _ _ (Oper.mk _ (.load _ _) _ _ _ _ :: _) _ _; refine BigFrame.wpList_want rfl (fun K hK => ?_); (first | (refine o_loadPt (n := ?_) (d := ?_) rfl rfl H ?_ ?_ ?_ (hK _ _ ?_); rotate_left 2; (repeat first | exact .head _ | apply List.Mem.tail); (focus (intro _; simp; done)); (focus (intro _; simp; done))) | (refine o_loadN (cs := ?_) (r := ?_) rfl rfl H ?_ ?_ ?_ ?_ (hK _ _ ?_); rotate_left 2; (with_reducible assumption); (repeat first | exact .head _ | apply List.Mem.tail); (focus (intro _; simp; done)); (focus (intro _; simp; done))) | (refine o_loadNC (row := ?_) rfl rfl H ?_ ?_ ?_ (hK _ _ ?_); rotate_left 1; (repeat first | exact .head _ | apply List.Mem.tail); (focus (intro _; simp; done)); (focus (intro _; simp; done)))); clear hK K) | (guard_target =~ wpList _ _ _ (Oper.mk _ (.store _ _ _) _ _ _ _ :: _) _ _; refine BigFrame.wpList_want rfl (fun K hK => ?_); refine o_store (l' := ?_) (row := ?_) rfl rfl H rfl ?_ ?_ ?_ ?_ (fun w3 H2 => hK _ _ ?_); rotate_left 2; (exact r0); (focus (intro _; simp [Act.eval, Value.cells]; done)); (focus (simp [Act.eval, Value.cells]; done)); (exact rfl); clear hK K; clear H; (try clear w2); revert w3; intro w2 H; simp [Act.eval, Value.cells, setL, List.getD] at H) | ((guard_target =~ wpList _ _ _ (Oper.mk _ (.alloc _) _ _ _ _ :: _) _ _; refine BigFrame.wpList_want rfl (fun K hK => ?_); refine o_alloc (z := ?_) rfl ?_ H rfl (fun w3 b2 he H2 => hK _ _ ?_); rotate_left 1; (focus (intro _; simp; with_reducible exact rfl))); clear hK K he; clear H; (try clear w2); revert w3; intro w2 H; simp [Act.eval, Value.cells, setL, List.getD] at H; (clear tk0; rename Nat => b4))); simp only [Act.put, List.setIfInBounds_toArray, List.set_cons_succ, List.set_cons_zero]))
        go_ret
        exact ⟨ret_b (by rw [← HV.out, any_yes HE.out HF.out]), H.below⟩
    · obtain rfl : gk = 0 := by omega
      have tk0 : True := trivial
      go_wp2_with (first | fail)
      go_ret
      exact ⟨ret_b (by rw [← HV.out, ← HT.out, Nat.sub_zero, List.take_length]), H.below⟩
end Go.Proofs.Ytlhmjhildlnokaa
