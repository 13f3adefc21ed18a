/-
  The document's lines of edges: croftref21.Line.
-/
import Derived.Test.YtlhmjhildlnokaaTrap1
import Derived.Test.YtlhmjhildlnokaaMcbf0f224
import Derived.Test.YtlhmjhildlnokaaGeomR
import Derived.Test.YtlhmjhildlnokaaPlan2
import Derived.Test.YtlhmjhildlnokaaTrap5b
import Derived.Test.YtlhmjhildlnokaaGeo2
namespace Go.Proofs.Ytlhmjhildlnokaa
set_option linter.unusedVariables false
set_option linter.unusedSimpArgs false
open Go.RowKit

set_option maxRecDepth 100000 in
set_option maxHeartbeats 8000000 in
theorem refLine_any (vs : List Vt) (A A2 : Option Addr) (n m : Nat) (c c2 : Nat) (F : Nat → Prop) (i x y : Int) (w : World) (hn : n = vs.length) (hs : Sl F w A (vR vs)) (hl : n ≤ 1000000) (hx : (vs.find? fun v => v.id == x).isSome = true) (hy : (vs.find? fun v => v.id == y).isSome = true) :
    Calls Try.prog 71 #[.agg #[.slice A n c, .slice A2 m c2], v3 i x y] w fun e w' => e = .returned (.tuple #[pV (segZ vs x y).a.x (segZ vs x y).a.y, pV (segZ vs x y).b.x (segZ vs x y).b.y]) ∧ Below w.heap.size w w' := by
  obtain ⟨b0, o0, H, f0⟩ := (Own.start w).addSl (hs.ro (by rfl))
  clear hs
  obtain ⟨i1, ax, ay, e1, r1⟩ := vt_some hx
  obtain ⟨i2, bx, b_y, e2, r2⟩ := vt_some hy
  have h1 := fun F w h => refAt_any vs A A2 n m c c2 F x i1 ax ay w hn h hl e1
  have h2 := fun F w h => refAt_any vs A A2 n m c c2 F y i2 bx b_y w hn h hl e2
  have hz : segZ vs x y = if lessB ⟨bx, b_y⟩ ⟨ax, ay⟩ = true then ⟨⟨bx, b_y⟩, ⟨ax, ay⟩⟩ else ⟨⟨ax, ay⟩, ⟨bx, b_y⟩⟩ := by unfold segZ; rw [r1, r2]
  have h3 := fun w => refLess_any bx b_y ax ay w
  rw [hz]
  clear hx hy hn hz e1 e2 r1 r2
  generalize lessB ⟨bx, b_y⟩ ⟨ax, ay⟩ = v at h3 ⊢
  cases v
  · simp only [Bool.false_eq_true, if_false]
    go_enter Try.func71, Try.ntmps71
    have tk0 : True := trivial
    have tk1 : True := trivial
    have tk2 : True := trivial
    have tk3 : True := trivial
    go_wp2_with (first
      | (guard_target =~ Code.wp _ (Code.region 1 _ true) _ _ _; refine region_treeC0 1 (G := ?_) (.q 0 (.q 1 (.q 2 (.q 3 (.q 4 (.q 5 (.q 6 (.q 7 (.both (.e 8 (.e 9 (.e 10 (.e 11 .nil)))) (.e 9 (.e 8 (.e 10 (.e 11 .nil))))))))))))) (by kernel_rfl) (by intro c a d v w h; cases d <;> first | exact h | exact hQ h) (by kernel_rfl) H ?_ (fun key1 w3 H2 => ?_); rotate_left 2; (revert w3; intro w2 H))
      | (guard_target =~ Key 1 _; refine ⟨?_⟩; intro nb8 nb9 w2 H)
      | (guard_target =~ Code.wp _ (Code.region 4 _ true) _ _ _; (replace H:Own _ _ _ (Res.cells b4 _ :: _) := H.front2); (replace H:Own _ _ _ (Res.cells b3 _ :: _) := H.front3); refine region_treeC 4 2 (G := True) (.q 0 (.q 1 (.e 2 (.e 3 .nil)))) (by kernel_rfl) (by intro c a d v w h; cases d <;> first | exact h | exact hQ h) (by kernel_rfl) H ⟨trivial⟩ (fun _ w3 H2 => ?_); (clear H; (try clear w2); revert w3; intro w2 H); simp only [List.drop_succ_cons, List.drop_zero])
      | (go_at_call 42; (with_reducible refine (h3 _).mono ?_); rintro e w3 ⟨rfl, hb⟩; replace H := H.ext hb; clear hb; dsimp only; (skip))
      | (guard_target =~ wpList _ _ _ (_ :: _) _ _; (first | (guard_target =~ wpList _ _ _ (Oper.mk _ (.load _ _) _ _ _ _ :: _) _ _; refine BigFrame.wpList_want rfl (fun K hK => ?_); (refine o_loadNC (row := ?_) rfl rfl H ?_ ?_ ?_ (hK _ _ ?_); rotate_left 1; (repeat first | exact .head _ | apply List.Mem.tail); (focus (intro _; simp; done)); (focus (intro _; simp; done))); clear hK K) | ((first | (guard_target =~ wpList _ _ _ (Oper.mk _ (.alloc _) _ _ _ _ :: _) _ _; refine BigFrame.wpList_want rfl (fun K hK => ?_); refine o_alloc (z := ?_) rfl ?_ H rfl (fun w3 b2 he H2 => hK _ _ ?_); rotate_left 1; (focus (intro _; simp; with_reducible exact rfl))) | (guard_target =~ wpList _ _ _ (Oper.mk _ (.box _ _) _ _ _ _ :: _) _ _; refine BigFrame.wpList_want rfl (fun K hK => ?_); refine o_box rfl H rfl (fun w3 b2 he H2 => hK _ _ ?_))); clear hK K he; clear H; (try clear w2); revert w3; intro w2 H; simp [Act.eval, Value.cells, setL, List.getD] at H; (first | (clear tk0; rename Nat => b1) | (clear tk1; rename Nat => b2) | (clear tk2; rename Nat => b3) | (clear tk3; rename Nat => b4)))); simp only [Act.put, List.setIfInBounds_toArray, List.set_cons_succ, List.set_cons_zero])
      | (guard_target =~ wpTreeC _ _ _ _ _ _ _; first | (guard_target =~ wpTreeC _ _ _ (Tr.e _ Tr.nil) _ _ _; refine treeC_last (by decide +kernel) H rfl rfl (fun w3 H2 K hK => ?_); clear H; (try clear w2); (revert w3; intro w2 H); simp only [List.getElem_toArray, List.getElem_cons_succ, List.getElem_cons_zero]; (guard_target =~ Oper.wp _ (Oper.mk _ (.store _ _ _) _ _ _ _) _ _ _ _; refine o_store (l' := ?_) (row := ?_) rfl rfl H rfl ?_ ?_ ?_ ?_ (fun w3 H2 => hK _ _ ?_); rotate_left 2; (first | exact r0 | exact r1); (focus (intro _; simp [Act.eval, Value.cells]; done)); (focus (simp [Act.eval, Value.cells]; done)); (exact rfl); clear hK K; clear H; (try clear w2); revert w3; intro w2 H; simp [Act.eval, Value.cells, setL, List.getD] at H); simp only [Act.put, List.setIfInBounds_toArray, List.set_cons_succ, List.set_cons_zero]) | (guard_target =~ wpTreeC _ _ _ (Tr.q _ _) _ _ _; first | (refine treeC_quiet ⟨_, H, by repeat first | exact .here | apply Suf.there⟩ rfl rfl rfl (fun K hK => ?_); simp only [List.getElem_toArray, List.getElem_cons_succ, List.getElem_cons_zero]; first | (guard_target =~ Oper.quiet _ (Oper.mk _ (.load _ _) _ _ _ _) _ _ _; (first | (refine q_loadC (v := ?_) (row := ?_) rfl rfl ?_ ?_ ?_ (hK _ ?_); rotate_left 2; (repeat first | exact .head _ | apply List.Mem.tail); (exact rfl); (focus (intro _; simp; done))) | (refine q_loadNC (row := ?_) rfl rfl ?_ ?_ ?_ (hK _ ?_); rotate_left 1; (repeat first | exact .head _ | apply List.Mem.tail); (focus (intro _; simp; done)); (focus (intro _; simp; done)))); clear hK K; simp only [Act.put, List.setIfInBounds_toArray, List.set_cons_succ, List.set_cons_zero]) | (go_big_quiet_op; (try refine ⟨_, fun _ _ => rfl, ?_⟩); refine hK _ ?_; clear hK K)) | (refine treeC_call (v := ?_) ⟨_, H, by repeat first | exact .here | apply Suf.there⟩ rfl rfl (fun w3 H K hK => ?_) ?_; rotate_left 1; (focus (simp only [List.getElem_toArray, List.getElem_cons_succ, List.getElem_cons_zero]; first | (go_big_op; first | exact hK _ (Ext.refl _) | (go_at_call 33; (with_reducible refine (h1 _ _ (by exact H.giveRd m4 f0)).mono ?_); rintro e w3 ⟨rfl, hb⟩; dsimp only; first | exact hK _ hb | exact hK _ (Ext.refl _)) | (go_at_call 33; (with_reducible refine (h2 _ _ (by exact H.giveRd m4 f0)).mono ?_); rintro e w3 ⟨rfl, hb⟩; dsimp only; first | exact hK _ hb | exact hK _ (Ext.refl _)) | (go_at_call 42; (with_reducible refine (h3 _).mono ?_); rintro e w3 ⟨rfl, hb⟩; dsimp only; first | exact hK _ hb | exact hK _ (Ext.refl _))))); simp only [List.getElem_toArray, List.getElem_cons_succ, List.getElem_cons_zero, Act.put, List.setIfInBounds_toArray, List.set_cons_succ, List.set_cons_zero]) | (refine treeC_skip ⟨_, H, by repeat first | exact .here | apply Suf.there⟩ rfl rfl ?_; simp only [List.getElem_toArray, List.getElem_cons_succ, List.getElem_cons_zero, Act.put, List.setIfInBounds_toArray, List.set_cons_succ, List.set_cons_zero])) | (guard_target =~ wpTreeC _ _ _ (Tr.e _ _) _ _ _; (first | (guard_target =~ wpTreeC _ _ _ (Tr.e 8 _) _ _ _; refine treeC_one H rfl rfl (fun w3 H2 K hK => ?_); clear H; (try clear w2); (revert w3; intro w2 H); simp only [List.getElem_toArray, List.getElem_cons_succ, List.getElem_cons_zero]; ((guard_target =~ Oper.wp _ (Oper.mk _ (.alloc _) _ _ _ _) _ _ _ _; refine o_alloc (z := ?_) rfl ?_ H rfl (fun w3 b2 he H2 => hK _ _ ⟨_, H2, ?_⟩ ?_); rotate_left 1; (focus (intro _; simp; with_reducible exact rfl))); (guard_target =~ Suf _ _; repeat first | exact .here | apply Suf.there); clear hK K he; clear H; (try clear w2); revert w3; intro w2 H; simp [Act.eval, Value.cells, setL, List.getD] at H); simp only [Act.put, List.setIfInBounds_toArray, List.set_cons_succ, List.set_cons_zero]; rename Nat => nb8) | (guard_target =~ wpTreeC _ _ _ (Tr.e 9 _) _ _ _; refine treeC_one H rfl rfl (fun w3 H2 K hK => ?_); clear H; (try clear w2); (revert w3; intro w2 H); simp only [List.getElem_toArray, List.getElem_cons_succ, List.getElem_cons_zero]; ((guard_target =~ Oper.wp _ (Oper.mk _ (.alloc _) _ _ _ _) _ _ _ _; refine o_alloc (z := ?_) rfl ?_ H rfl (fun w3 b2 he H2 => hK _ _ ⟨_, H2, ?_⟩ ?_); rotate_left 1; (focus (intro _; simp; with_reducible exact rfl))); (guard_target =~ Suf _ _; repeat first | exact .here | apply Suf.there); clear hK K he; clear H; (try clear w2); revert w3; intro w2 H; simp [Act.eval, Value.cells, setL, List.getD] at H); simp only [Act.put, List.setIfInBounds_toArray, List.set_cons_succ, List.set_cons_zero]; rename Nat => nb9))) | (guard_target =~ wpTreeC _ _ _ (Tr.both _ _) _ _ _; refine treeC_both ?_ ?_) | (guard_target =~ wpTreeC _ _ _ (Tr.e _ _) _ _ _; first | (refine treeC_one H rfl rfl (fun w3 H2 K hK => ?_); clear H; (try clear w2); (revert w3; intro w2 H); simp only [List.getElem_toArray, List.getElem_cons_succ, List.getElem_cons_zero]; first | ((guard_target =~ Oper.wp _ (Oper.mk _ (.store _ _ _) _ _ _ _) _ _ _ _; refine o_store (l' := ?_) (row := ?_) rfl rfl H rfl ?_ ?_ ?_ ?_ (fun w3 H2 => hK _ _ ⟨_, H2, ?_⟩ ?_); rotate_left 2; (first | exact r0 | exact r1); (focus (intro _; simp [Act.eval, Value.cells]; done)); (focus (simp [Act.eval, Value.cells]; done)); (exact rfl); (guard_target =~ Suf _ _; repeat first | exact .here | apply Suf.there); clear hK K; clear H; (try clear w2); revert w3; intro w2 H; simp [Act.eval, Value.cells, setL, List.getD] at H); simp only [Act.put, List.setIfInBounds_toArray, List.set_cons_succ, List.set_cons_zero]) | (go_big_op; (first | fail))) | (refine treeC_one_skip (fun w3 hx => ⟨_, H.ext hx, by repeat first | exact .here | apply Suf.there⟩) rfl rfl (fun w3 hx => ?_); replace H := H.ext hx; clear hx; (try clear w2); revert w3; intro w2 H; simp only [List.getElem_toArray, List.getElem_cons_succ, List.getElem_cons_zero, Act.put, List.setIfInBounds_toArray, List.set_cons_succ, List.set_cons_zero])) | (refine treeC_nil H (fun w3 H2 => ?_); clear H; (try clear w2); revert w3; intro w2 H; (first | replace H : Own _ _ _ (Res.cells nb9 _ :: _) := H | replace H : Own _ _ _ (Res.cells nb9 _ :: _) := H.front1 | replace H : Own _ _ _ (Res.cells nb9 _ :: _) := H.front3); (first | replace H : Own _ _ _ (Res.cells nb8 _ :: _) := H.front1 | replace H : Own _ _ _ (Res.cells nb8 _ :: _) := H.front3); revert w2; revert nb9; revert nb8; exact key1.out) | (guard_target =~ wpTreeC _ _ _ Tr.nil _ _ _; refine treeC_nil H (fun w3 H2 => ?_); clear H; (try clear w2); revert w3; intro w2 H)))
    have hr1 := H.loadVarN (P := Try.prog) (ty := 47) (b := b3) (by exact m0) (by simp) (by simp)
    have hr2 := H.loadVarN (P := Try.prog) (ty := 47) (b := b4) (by exact m1) (by simp) (by simp)
    exact bodyPost_ret (v := .tuple #[pV ax ay, pV bx b_y]) (by simp [results, Try.results71, asAddr, hr1, hr2]) rfl ⟨rfl, H.below⟩
  · simp only [if_true]
    go_enter Try.func71, Try.ntmps71
    have tk0 : True := trivial
    have tk1 : True := trivial
    have tk2 : True := trivial
    have tk3 : True := trivial
    go_wp2_with (first
      | (guard_target =~ Code.wp _ (Code.region 1 _ true) _ _ _; refine region_treeC0 1 (G := ?_) (.q 0 (.q 1 (.q 2 (.q 3 (.q 4 (.q 5 (.q 6 (.q 7 (.both (.e 8 (.e 9 (.e 10 (.e 11 .nil)))) (.e 9 (.e 8 (.e 10 (.e 11 .nil))))))))))))) (by kernel_rfl) (by intro c a d v w h; cases d <;> first | exact h | exact hQ h) (by kernel_rfl) H ?_ (fun key1 w3 H2 => ?_); rotate_left 2; (revert w3; intro w2 H))
      | (guard_target =~ Key 1 _; refine ⟨?_⟩; intro nb8 nb9 w2 H)
      | (guard_target =~ Code.wp _ (Code.region 3 _ true) _ _ _; (replace H:Own _ _ _ (Res.cells b4 _ :: _) := H.front2); (replace H:Own _ _ _ (Res.cells b3 _ :: _) := H.front3); refine region_treeC 3 2 (G := True) (.q 0 (.q 1 (.e 2 (.e 3 .nil)))) (by kernel_rfl) (by intro c a d v w h; cases d <;> first | exact h | exact hQ h) (by kernel_rfl) H ⟨trivial⟩ (fun _ w3 H2 => ?_); (clear H; (try clear w2); revert w3; intro w2 H); simp only [List.drop_succ_cons, List.drop_zero])
      | (go_at_call 42; (with_reducible refine (h3 _).mono ?_); rintro e w3 ⟨rfl, hb⟩; replace H := H.ext hb; clear hb; dsimp only; (skip))
      | (guard_target =~ wpList _ _ _ (_ :: _) _ _; (first | (guard_target =~ wpList _ _ _ (Oper.mk _ (.load _ _) _ _ _ _ :: _) _ _; refine BigFrame.wpList_want rfl (fun K hK => ?_); (refine o_loadNC (row := ?_) rfl rfl H ?_ ?_ ?_ (hK _ _ ?_); rotate_left 1; (repeat first | exact .head _ | apply List.Mem.tail); (focus (intro _; simp; done)); (focus (intro _; simp; done))); clear hK K) | ((first | (guard_target =~ wpList _ _ _ (Oper.mk _ (.alloc _) _ _ _ _ :: _) _ _; refine BigFrame.wpList_want rfl (fun K hK => ?_); refine o_alloc (z := ?_) rfl ?_ H rfl (fun w3 b2 he H2 => hK _ _ ?_); rotate_left 1; (focus (intro _; simp; with_reducible exact rfl))) | (guard_target =~ wpList _ _ _ (Oper.mk _ (.box _ _) _ _ _ _ :: _) _ _; refine BigFrame.wpList_want rfl (fun K hK => ?_); refine o_box rfl H rfl (fun w3 b2 he H2 => hK _ _ ?_))); clear hK K he; clear H; (try clear w2); revert w3; intro w2 H; simp [Act.eval, Value.cells, setL, List.getD] at H; (first | (clear tk0; rename Nat => b1) | (clear tk1; rename Nat => b2) | (clear tk2; rename Nat => b3) | (clear tk3; rename Nat => b4)))); simp only [Act.put, List.setIfInBounds_toArray, List.set_cons_succ, List.set_cons_zero])
      | (guard_target =~ wpTreeC _ _ _ _ _ _ _; first | (guard_target =~ wpTreeC _ _ _ (Tr.e _ Tr.nil) _ _ _; refine treeC_last (by decide +kernel) H rfl rfl (fun w3 H2 K hK => ?_); clear H; (try clear w2); (revert w3; intro w2 H); simp only [List.getElem_toArray, List.getElem_cons_succ, List.getElem_cons_zero]; (guard_target =~ Oper.wp _ (Oper.mk _ (.store _ _ _) _ _ _ _) _ _ _ _; refine o_store (l' := ?_) (row := ?_) rfl rfl H rfl ?_ ?_ ?_ ?_ (fun w3 H2 => hK _ _ ?_); rotate_left 2; (first | exact r0 | exact r1); (focus (intro _; simp [Act.eval, Value.cells]; done)); (focus (simp [Act.eval, Value.cells]; done)); (exact rfl); clear hK K; clear H; (try clear w2); revert w3; intro w2 H; simp [Act.eval, Value.cells, setL, List.getD] at H); simp only [Act.put, List.setIfInBounds_toArray, List.set_cons_succ, List.set_cons_zero]) | (guard_target =~ wpTreeC _ _ _ (Tr.q _ _) _ _ _; first | (refine treeC_quiet ⟨_, H, by repeat first | exact .here | apply Suf.there⟩ rfl rfl rfl (fun K hK => ?_); simp only [List.getElem_toArray, List.getElem_cons_succ, List.getElem_cons_zero]; first | (guard_target =~ Oper.quiet _ (Oper.mk _ (.load _ _) _ _ _ _) _ _ _; (first | (refine q_loadC (v := ?_) (row := ?_) rfl rfl ?_ ?_ ?_ (hK _ ?_); rotate_left 2; (repeat first | exact .head _ | apply List.Mem.tail); (exact rfl); (focus (intro _; simp; done))) | (refine q_loadNC (row := ?_) rfl rfl ?_ ?_ ?_ (hK _ ?_); rotate_left 1; (repeat first | exact .head _ | apply List.Mem.tail); (focus (intro _; simp; done)); (focus (intro _; simp; done)))); clear hK K; simp only [Act.put, List.setIfInBounds_toArray, List.set_cons_succ, List.set_cons_zero]) | (go_big_quiet_op; (try refine ⟨_, fun _ _ => rfl, ?_⟩); refine hK _ ?_; clear hK K)) | (refine treeC_call (v := ?_) ⟨_, H, by repeat first | exact .here | apply Suf.there⟩ rfl rfl (fun w3 H K hK => ?_) ?_; rotate_left 1; (focus (simp only [List.getElem_toArray, List.getElem_cons_succ, List.getElem_cons_zero]; first | (go_big_op; first | exact hK _ (Ext.refl _) | (go_at_call 33; (with_reducible refine (h1 _ _ (by exact H.giveRd m4 f0)).mono ?_); rintro e w3 ⟨rfl, hb⟩; dsimp only; first | exact hK _ hb | exact hK _ (Ext.refl _)) | (go_at_call 33; (with_reducible refine (h2 _ _ (by exact H.giveRd m4 f0)).mono ?_); rintro e w3 ⟨rfl, hb⟩; dsimp only; first | exact hK _ hb | exact hK _ (Ext.refl _)) | (go_at_call 42; (with_reducible refine (h3 _).mono ?_); rintro e w3 ⟨rfl, hb⟩; dsimp only; first | exact hK _ hb | exact hK _ (Ext.refl _))))); simp only [List.getElem_toArray, List.getElem_cons_succ, List.getElem_cons_zero, Act.put, List.setIfInBounds_toArray, List.set_cons_succ, List.set_cons_zero]) | (refine treeC_skip ⟨_, H, by repeat first | exact .here | apply Suf.there⟩ rfl rfl ?_; simp only [List.getElem_toArray, List.getElem_cons_succ, List.getElem_cons_zero, Act.put, List.setIfInBounds_toArray, List.set_cons_succ, List.set_cons_zero])) | (guard_target =~ wpTreeC _ _ _ (Tr.e _ _) _ _ _; (first | (guard_target =~ wpTreeC _ _ _ (Tr.e 8 _) _ _ _; refine treeC_one H rfl rfl (fun w3 H2 K hK => ?_); clear H; (try clear w2); (revert w3; intro w2 H); simp only [List.getElem_toArray, List.getElem_cons_succ, List.getElem_cons_zero]; ((guard_target =~ Oper.wp _ (Oper.mk _ (.alloc _) _ _ _ _) _ _ _ _; refine o_alloc (z := ?_) rfl ?_ H rfl (fun w3 b2 he H2 => hK _ _ ⟨_, H2, ?_⟩ ?_); rotate_left 1; (focus (intro _; simp; with_reducible exact rfl))); (guard_target =~ Suf _ _; repeat first | exact .here | apply Suf.there); clear hK K he; clear H; (try clear w2); revert w3; intro w2 H; simp [Act.eval, Value.cells, setL, List.getD] at H); simp only [Act.put, List.setIfInBounds_toArray, List.set_cons_succ, List.set_cons_zero]; rename Nat => nb8) | (guard_target =~ wpTreeC _ _ _ (Tr.e 9 _) _ _ _; refine treeC_one H rfl rfl (fun w3 H2 K hK => ?_); clear H; (try clear w2); (revert w3; intro w2 H); simp only [List.getElem_toArray, List.getElem_cons_succ, List.getElem_cons_zero]; ((guard_target =~ Oper.wp _ (Oper.mk _ (.alloc _) _ _ _ _) _ _ _ _; refine o_alloc (z := ?_) rfl ?_ H rfl (fun w3 b2 he H2 => hK _ _ ⟨_, H2, ?_⟩ ?_); rotate_left 1; (focus (intro _; simp; with_reducible exact rfl))); (guard_target =~ Suf _ _; repeat first | exact .here | apply Suf.there); clear hK K he; clear H; (try clear w2); revert w3; intro w2 H; simp [Act.eval, Value.cells, setL, List.getD] at H); simp only [Act.put, List.setIfInBounds_toArray, List.set_cons_succ, List.set_cons_zero]; rename Nat => nb9))) | (guard_target =~ wpTreeC _ _ _ (Tr.both _ _) _ _ _; refine treeC_both ?_ ?_) | (guard_target =~ wpTreeC _ _ _ (Tr.e _ _) _ _ _; first | (refine treeC_one H rfl rfl (fun w3 H2 K hK => ?_); clear H; (try clear w2); (revert w3; intro w2 H); simp only [List.getElem_toArray, List.getElem_cons_succ, List.getElem_cons_zero]; first | ((guard_target =~ Oper.wp _ (Oper.mk _ (.store _ _ _) _ _ _ _) _ _ _ _; refine o_store (l' := ?_) (row := ?_) rfl rfl H rfl ?_ ?_ ?_ ?_ (fun w3 H2 => hK _ _ ⟨_, H2, ?_⟩ ?_); rotate_left 2; (first | exact r0 | exact r1); (focus (intro _; simp [Act.eval, Value.cells]; done)); (focus (simp [Act.eval, Value.cells]; done)); (exact rfl); (guard_target =~ Suf _ _; repeat first | exact .here | apply Suf.there); clear hK K; clear H; (try clear w2); revert w3; intro w2 H; simp [Act.eval, Value.cells, setL, List.getD] at H); simp only [Act.put, List.setIfInBounds_toArray, List.set_cons_succ, List.set_cons_zero]) | (go_big_op; (first | fail))) | (refine treeC_one_skip (fun w3 hx => ⟨_, H.ext hx, by repeat first | exact .here | apply Suf.there⟩) rfl rfl (fun w3 hx => ?_); replace H := H.ext hx; clear hx; (try clear w2); revert w3; intro w2 H; simp only [List.getElem_toArray, List.getElem_cons_succ, List.getElem_cons_zero, Act.put, List.setIfInBounds_toArray, List.set_cons_succ, List.set_cons_zero])) | (refine treeC_nil H (fun w3 H2 => ?_); clear H; (try clear w2); revert w3; intro w2 H; (first | replace H : Own _ _ _ (Res.cells nb9 _ :: _) := H | replace H : Own _ _ _ (Res.cells nb9 _ :: _) := H.front1 | replace H : Own _ _ _ (Res.cells nb9 _ :: _) := H.front3); (first | replace H : Own _ _ _ (Res.cells nb8 _ :: _) := H.front1 | replace H : Own _ _ _ (Res.cells nb8 _ :: _) := H.front3); revert w2; revert nb9; revert nb8; exact key1.out) | (guard_target =~ wpTreeC _ _ _ Tr.nil _ _ _; refine treeC_nil H (fun w3 H2 => ?_); clear H; (try clear w2); revert w3; intro w2 H)))
    have hr1 := H.loadVarN (P := Try.prog) (ty := 47) (b := b3) (by exact m0) (by simp) (by simp)
    have hr2 := H.loadVarN (P := Try.prog) (ty := 47) (b := b4) (by exact m1) (by simp) (by simp)
    exact bodyPost_ret (v := .tuple #[pV bx b_y, pV ax ay]) (by simp [results, Try.results71, asAddr, hr1, hr2]) rfl ⟨rfl, H.below⟩
end Go.Proofs.Ytlhmjhildlnokaa

/-
  The walk of croftlaw21's side.
-/
namespace Go.Proofs.Ytlhmjhildlnokaa
set_option linter.unusedVariables false
set_option linter.unusedSimpArgs false
open Go.RowKit

theorem find_idx2 {es : List Eg} {id : Int} (h : (es.find? fun e => e.id == id).isSome = true) : ∃ k x y, (es.findIdx? fun e => e.id == id) = some k ∧ es[k]? = some ⟨id, x, y⟩ ∧ (es.find? fun e => e.id == id) = some ⟨id, x, y⟩ := by
  obtain ⟨⟨i, x, y⟩, he⟩ := Option.isSome_iff_exists.1 h
  obtain ⟨k, h1, h2⟩ := find_idx he
  have h3 := List.find?_some he
  simp only [beq_iff_eq] at h3
  subst h3
  exact ⟨k, x, y, h1, h2, he⟩
set_option maxRecDepth 100000 in
set_option maxHeartbeats 8000000 in
theorem side21_any (vs : List Vt) (es : List Eg) (A A2 : Option Addr) (n m : Nat) (c c2 : Nat) (F : Nat → Prop) (id x y px py : Int) (k : Nat) (w : World) (hn : n = vs.length) (hm : m = es.length) (hs : Sl F w A (vR vs)) (hs2 : Sl F w A2 (eR es)) (hl : n ≤ 1000000) (hl2 : m ≤ 1000000)
    (hk : (es.findIdx? fun e => e.id == id) = some k) (he : es[k]? = some ⟨id, x, y⟩) (hx : (vs.find? fun v => v.id == x).isSome = true) (hy : (vs.find? fun v => v.id == y).isSome = true) (ia : InP (segZ vs x y).a) (ib : InP (segZ vs x y).b) (ip : InP ⟨px, py⟩) :
    Calls Try.prog 43 #[.agg #[.slice A n c, .slice A2 m c2], .int .i64 id, pV px py] w fun e w' => e = .returned (.int .i64 (turnZ (segZ vs x y).a (segZ vs x y).b ⟨px, py⟩)) ∧ Below w.heap.size w w' := by
  obtain ⟨b0, o0, H1, f0⟩ := (Own.start w).addSl (hs.ro (by rfl))
  obtain ⟨b9, o9, H, f9⟩ := H1.addSl (hs2.ro (by rfl))
  clear hs hs2 H1
  have h1 := fun F w h => refEdge_any es A2 A m n c2 c F id w hm h hl2
  rw [hk] at h1
  simp only [ixZ] at h1
  have h2 := fun F w h => refLine_any vs A A2 n m c c2 F id x y w hn h hl hx hy
  obtain ⟨⟨⟨ax, ay⟩, ⟨sx, sy⟩⟩, hz⟩ : ∃ s, segZ vs x y = s := ⟨_, rfl⟩
  rw [hz] at ia ib h2 ⊢
  simp only at ia ib h2 ⊢
  have h3 := fun w => refTurn_any ax ay sx sy px py ia ib ip w
  have hkl : k < m := by rw [hm]; exact (List.getElem?_eq_some_iff.1 he).1
  obtain rfl := H.rdAddr m0 (eR_pos he)
  have hp := at_e (A := some ⟨b9, o9, none⟩) (b := b9) (off := o9) he
  clear hk he hx hy ia ib ip hz hn hm
  go_enter Try.func43, Try.ntmps43
  have tk0 : True := trivial
  have tk1 : True := trivial
  go_wp2_with (first
    | (guard_target =~ Code.wp _ (Code.region 1 _ true) _ _ _; refine region_treeC0 1 (G := ?_) (.q 0 (.q 1 (.q 2 (.q 3 (.q 4 (.q 5 (.q 6 (.q 7 (.q 8 (.q 9 (.q 10 (.q 11 (.both (.e 12 (.e 13 (.e 14 (.e 15 .nil)))) (.e 13 (.e 12 (.e 14 (.e 15 .nil))))))))))))))))) (by kernel_rfl) (by intro c a d v w h; cases d <;> first | exact h | exact hQ h) (by kernel_rfl) H ?_ (fun key1 w3 H2 => ?_); rotate_left 2; (revert w3; intro w2 H))
    | (guard_target =~ Key 1 _; refine ⟨?_⟩; intro nb12 nb13 w2 H)
    | (go_at_call 72; (with_reducible refine (h3 _).mono ?_); rintro e w3 ⟨rfl, hb⟩; replace H := H.ext hb; clear hb; dsimp only; (skip))
    | (guard_target =~ wpList _ _ _ (_ :: _) _ _; (first | (guard_target =~ wpList _ _ _ (Oper.mk _ (.load _ _) _ _ _ _ :: _) _ _; refine BigFrame.wpList_want rfl (fun K hK => ?_); (refine o_loadNC (row := ?_) rfl rfl H ?_ ?_ ?_ (hK _ _ ?_); rotate_left 1; (repeat first | exact .head _ | apply List.Mem.tail); (focus (intro _; simp; done)); (focus (intro _; simp; done))); clear hK K) | ((guard_target =~ wpList _ _ _ (Oper.mk _ (.box _ _) _ _ _ _ :: _) _ _; refine BigFrame.wpList_want rfl (fun K hK => ?_); refine o_box rfl H rfl (fun w3 b2 he H2 => hK _ _ ?_)); clear hK K he; clear H; (try clear w2); revert w3; intro w2 H; simp [Act.eval, Value.cells, setL, List.getD] at H; (first | (clear tk0; rename Nat => b1) | (clear tk1; rename Nat => b2)))); simp only [Act.put, List.setIfInBounds_toArray, List.set_cons_succ, List.set_cons_zero])
    | (guard_target =~ wpTreeC _ _ _ _ _ _ _; first | (guard_target =~ wpTreeC _ _ _ (Tr.e _ Tr.nil) _ _ _; refine treeC_last (by decide +kernel) H rfl rfl (fun w3 H2 K hK => ?_); clear H; (try clear w2); (revert w3; intro w2 H); simp only [List.getElem_toArray, List.getElem_cons_succ, List.getElem_cons_zero]; (guard_target =~ Oper.wp _ (Oper.mk _ (.store _ _ _) _ _ _ _) _ _ _ _; refine o_store (l' := ?_) (row := ?_) rfl rfl H rfl ?_ ?_ ?_ ?_ (fun w3 H2 => hK _ _ ?_); rotate_left 2; (first | exact r0 | exact r1); (focus (intro _; simp [Act.eval, Value.cells]; done)); (focus (simp [Act.eval, Value.cells]; done)); (exact rfl); clear hK K; clear H; (try clear w2); revert w3; intro w2 H; simp [Act.eval, Value.cells, setL, List.getD] at H); simp only [Act.put, List.setIfInBounds_toArray, List.set_cons_succ, List.set_cons_zero]) | (guard_target =~ wpTreeC _ _ _ (Tr.q _ _) _ _ _; first | (refine treeC_quiet ⟨_, H, by repeat first | exact .here | apply Suf.there⟩ rfl rfl rfl (fun K hK => ?_); simp only [List.getElem_toArray, List.getElem_cons_succ, List.getElem_cons_zero]; first | (guard_target =~ Oper.quiet _ (Oper.mk _ (.load _ _) _ _ _ _) _ _ _; (first | (refine q_loadC (v := ?_) (row := ?_) rfl rfl ?_ ?_ ?_ (hK _ ?_); rotate_left 2; (repeat first | exact .head _ | apply List.Mem.tail); (exact rfl); (focus (intro _; simp; done))) | (refine q_loadN (cs := ?_) (r := ?_) rfl rfl ?_ ?_ ?_ ?_ (hK _ ?_); rotate_left 2; (with_reducible assumption); (repeat first | exact .head _ | apply List.Mem.tail); (focus (intro _; simp; done)); (focus (intro _; simp; done))) | (refine q_loadNC (row := ?_) rfl rfl ?_ ?_ ?_ (hK _ ?_); rotate_left 1; (repeat first | exact .head _ | apply List.Mem.tail); (focus (intro _; simp; done)); (focus (intro _; simp; done)))); clear hK K; simp only [Act.put, List.setIfInBounds_toArray, List.set_cons_succ, List.set_cons_zero]) | (go_big_quiet_op; (try refine ⟨_, fun _ _ => rfl, ?_⟩); refine hK _ ?_; clear hK K)) | (refine treeC_call (v := ?_) ⟨_, H, by repeat first | exact .here | apply Suf.there⟩ rfl rfl (fun w3 H K hK => ?_) ?_; rotate_left 1; (focus (simp only [List.getElem_toArray, List.getElem_cons_succ, List.getElem_cons_zero]; first | (go_big_op; first | exact hK _ (Ext.refl _) | (go_at_call 30; (with_reducible refine (h1 _ _ (by exact H.giveRd m2 f9)).mono ?_); rintro e w3 ⟨rfl, hb⟩; dsimp only; first | exact hK _ hb | exact hK _ (Ext.refl _)) | (go_at_call 71; (with_reducible refine (h2 _ _ (by exact H.giveRd m3 f0)).mono ?_); rintro e w3 ⟨rfl, hb⟩; dsimp only; first | exact hK _ hb | exact hK _ (Ext.refl _)) | (go_at_call 72; (with_reducible refine (h3 _).mono ?_); rintro e w3 ⟨rfl, hb⟩; dsimp only; first | exact hK _ hb | exact hK _ (Ext.refl _))))); simp only [List.getElem_toArray, List.getElem_cons_succ, List.getElem_cons_zero, Act.put, List.setIfInBounds_toArray, List.set_cons_succ, List.set_cons_zero]) | (refine treeC_skip ⟨_, H, by repeat first | exact .here | apply Suf.there⟩ rfl rfl ?_; simp only [List.getElem_toArray, List.getElem_cons_succ, List.getElem_cons_zero, Act.put, List.setIfInBounds_toArray, List.set_cons_succ, List.set_cons_zero])) | (guard_target =~ wpTreeC _ _ _ (Tr.e _ _) _ _ _; (first | (guard_target =~ wpTreeC _ _ _ (Tr.e 12 _) _ _ _; refine treeC_one H rfl rfl (fun w3 H2 K hK => ?_); clear H; (try clear w2); (revert w3; intro w2 H); simp only [List.getElem_toArray, List.getElem_cons_succ, List.getElem_cons_zero]; ((guard_target =~ Oper.wp _ (Oper.mk _ (.alloc _) _ _ _ _) _ _ _ _; refine o_alloc (z := ?_) rfl ?_ H rfl (fun w3 b2 he H2 => hK _ _ ⟨_, H2, ?_⟩ ?_); rotate_left 1; (focus (intro _; simp; with_reducible exact rfl))); (guard_target =~ Suf _ _; repeat first | exact .here | apply Suf.there); clear hK K he; clear H; (try clear w2); revert w3; intro w2 H; simp [Act.eval, Value.cells, setL, List.getD] at H); simp only [Act.put, List.setIfInBounds_toArray, List.set_cons_succ, List.set_cons_zero]; rename Nat => nb12) | (guard_target =~ wpTreeC _ _ _ (Tr.e 13 _) _ _ _; refine treeC_one H rfl rfl (fun w3 H2 K hK => ?_); clear H; (try clear w2); (revert w3; intro w2 H); simp only [List.getElem_toArray, List.getElem_cons_succ, List.getElem_cons_zero]; ((guard_target =~ Oper.wp _ (Oper.mk _ (.alloc _) _ _ _ _) _ _ _ _; refine o_alloc (z := ?_) rfl ?_ H rfl (fun w3 b2 he H2 => hK _ _ ⟨_, H2, ?_⟩ ?_); rotate_left 1; (focus (intro _; simp; with_reducible exact rfl))); (guard_target =~ Suf _ _; repeat first | exact .here | apply Suf.there); clear hK K he; clear H; (try clear w2); revert w3; intro w2 H; simp [Act.eval, Value.cells, setL, List.getD] at H); simp only [Act.put, List.setIfInBounds_toArray, List.set_cons_succ, List.set_cons_zero]; rename Nat => nb13))) | (guard_target =~ wpTreeC _ _ _ (Tr.both _ _) _ _ _; refine treeC_both ?_ ?_) | (guard_target =~ wpTreeC _ _ _ (Tr.e _ _) _ _ _; first | (refine treeC_one H rfl rfl (fun w3 H2 K hK => ?_); clear H; (try clear w2); (revert w3; intro w2 H); simp only [List.getElem_toArray, List.getElem_cons_succ, List.getElem_cons_zero]; first | ((guard_target =~ Oper.wp _ (Oper.mk _ (.store _ _ _) _ _ _ _) _ _ _ _; refine o_store (l' := ?_) (row := ?_) rfl rfl H rfl ?_ ?_ ?_ ?_ (fun w3 H2 => hK _ _ ⟨_, H2, ?_⟩ ?_); rotate_left 2; (first | exact r0 | exact r1); (focus (intro _; simp [Act.eval, Value.cells]; done)); (focus (simp [Act.eval, Value.cells]; done)); (exact rfl); (guard_target =~ Suf _ _; repeat first | exact .here | apply Suf.there); clear hK K; clear H; (try clear w2); revert w3; intro w2 H; simp [Act.eval, Value.cells, setL, List.getD] at H); simp only [Act.put, List.setIfInBounds_toArray, List.set_cons_succ, List.set_cons_zero]) | (go_big_op; (first | fail))) | (refine treeC_one_skip (fun w3 hx => ⟨_, H.ext hx, by repeat first | exact .here | apply Suf.there⟩) rfl rfl (fun w3 hx => ?_); replace H := H.ext hx; clear hx; (try clear w2); revert w3; intro w2 H; simp only [List.getElem_toArray, List.getElem_cons_succ, List.getElem_cons_zero, Act.put, List.setIfInBounds_toArray, List.set_cons_succ, List.set_cons_zero])) | (refine treeC_nil H (fun w3 H2 => ?_); clear H; (try clear w2); revert w3; intro w2 H; (first | replace H : Own _ _ _ (Res.cells nb13 _ :: _) := H | replace H : Own _ _ _ (Res.cells nb13 _ :: _) := H.front1); (replace H : Own _ _ _ (Res.cells nb12 _ :: _) := H.front1); revert w2; revert nb13; revert nb12; exact key1.out) | (guard_target =~ wpTreeC _ _ _ Tr.nil _ _ _; refine treeC_nil H (fun w3 H2 => ?_); clear H; (try clear w2); revert w3; intro w2 H)))
  go_ret
  exact ⟨rfl, H.below⟩
end Go.Proofs.Ytlhmjhildlnokaa

/-
  One round of put, seen from behind it.
-/
namespace Go.Proofs.Ytlhmjhildlnokaa
set_option linter.unusedVariables false
set_option linter.unusedSimpArgs false
open Go.RowKit Go.Sort Go.Shelf
/-! ### One round, seen from behind it -/
theorem setT_at {P : List Pc} {i : Nat} {p : Pc} (r : Pt) (h : P[i]? = some p) : (setR P i r)[i]? = some { p with t := { p.t with hr := true, r := r } } := by
  unfold setR; rw [h]
  simp only
  rw [List.getElem?_set]; simp [(List.getElem?_eq_some_iff.1 h).1]
theorem setG_at {P : List Pc} {i : Nat} {p : Pc} (h : P[i]? = some p) : (setG P i)[i]? = some { p with g := true } := by
  unfold setG; rw [h]
  simp only
  rw [List.getElem?_set]; simp [(List.getElem?_eq_some_iff.1 h).1]
/-- A line's question, with a wall at its right end, with a wall at its left end. -/
def QLine (N : List Nd) (id : Int) (u d : Nat) (q : Nd) : Prop := q = ⟨2, id, ⟨0, 0⟩, (u : Int), (d : Int)⟩
def QEnd (N : List Nd) (P : List Pc) (N0 : Nat) (ce : Bool) (t : Tz) (b : Pt) (i : Nat) (q1 q : Nd) : Prop :=
  if ce then ∃ c e : Nat, N0 ≤ c ∧ N0 ≤ e ∧ N[c]? = some q1 ∧ N[e]? = some (lfN i) ∧ P[i]? = some ⟨{ t with hl := true, l := b }, (e : Int), false⟩ ∧ q = ⟨1, 0, b, (c : Int), (e : Int)⟩ else q = q1
def QBeg (N : List Nd) (P : List Pc) (N0 : Nat) (cb : Bool) (t : Tz) (a : Pt) (i : Nat) (q1 q : Nd) : Prop :=
  if cb then ∃ c e : Nat, N0 ≤ c ∧ N0 ≤ e ∧ N[c]? = some q1 ∧ N[e]? = some (lfN i) ∧ P[i]? = some ⟨{ t with hr := true, r := a }, (e : Int), false⟩ ∧ q = ⟨1, 0, a, (e : Int), (c : Int)⟩ else q = q1
structure RV (id : Int) (s : Sg) (f la : Bool) (n : Nat) (X Y : PSt) (p : Pc) (l r : Pt) (cu cd ce cb : Bool) : Prop where
  pl : Y.P.length = X.P.length + cu.toNat + cd.toNat + ce.toNat + cb.toNat
  old : ∀ i, i < X.P.length → i ≠ n → (cu = true ∨ i ≠ idN X.N X.u) → (cd = true ∨ i ≠ idN X.N X.d) → Y.P[i]? = X.P[i]?
  gone : Y.P[n]? = some { p with g := true }
  nl : X.N.length ≤ Y.N.length
  oldN : ∀ i, i < X.N.length → i ≠ p.n.toNat → Y.N[i]? = X.N[i]?
  u1 : cu = true → Y.u = X.N.length ∧ Y.N[X.N.length]? = some (lfN X.P.length) ∧ Y.P[X.P.length]? = some ⟨⟨p.t.top, id, true, true, l, r⟩, (X.N.length : Int), false⟩
  u0 : cu = false → Y.u = X.u ∧ ∀ pu, X.P[idN X.N X.u]? = some pu → Y.P[idN X.N X.u]? = some { pu with t := { pu.t with hr := true, r := r } }
  d1 : cd = true → Y.d = X.N.length + cu.toNat ∧ Y.N[X.N.length + cu.toNat]? = some (lfN (X.P.length + cu.toNat)) ∧ Y.P[X.P.length + cu.toNat]? = some ⟨⟨id, p.t.bot, true, true, l, r⟩, ((X.N.length + cu.toNat : Nat) : Int), false⟩
  d0 : cd = false → Y.d = X.d ∧ ∀ pu, X.P[idN X.N X.d]? = some pu → Y.P[idN X.N X.d]? = some { pu with t := { pu.t with hr := true, r := r } }
  q : ∃ q1 q2 q3, QLine Y.N id Y.u Y.d q1 ∧ QEnd Y.N Y.P X.N.length ce p.t s.b (X.P.length + cu.toNat + cd.toNat) q1 q2 ∧ QBeg Y.N Y.P X.N.length cb p.t s.a (X.P.length + cu.toNat + cd.toNat + ce.toNat) q2 q3 ∧ Y.N[p.n.toNat]? = some q3
theorem set_ne {α : Type} {l : List α} {i j : Nat} {a : α} (h : j ≠ i) : (l.set i a)[j]? = l[j]? := by rw [List.getElem?_set]; simp [Ne.symm h]
theorem set_at {α : Type} {l : List α} {i : Nat} {a : α} (h : i < l.length) : (l.set i a)[i]? = some a := by rw [List.getElem?_set]; simp [h]
theorem app_lt {α : Type} {l m : List α} {i : Nat} (h : i < l.length) : (l ++ m)[i]? = l[i]? := List.getElem?_append_left h
theorem app_at {α : Type} {l : List α} {i : Nat} {a : α} {m : List α} (h : i = l.length) : (l ++ a :: m)[i]? = some a := by subst h; simp
theorem roundS_view {N0 : Nat} {Pa : List Pc} {rest : List Nat} {n : Nat} {id : Int} {s : Sg} {f la : Bool} {X : PSt} {p : Pc} (I : PInv N0 Pa (n :: rest) X) (hu : f = false → LeafIn N0 Pa.length X X.u ∧ LeafIn N0 Pa.length X X.d)
    (hp : Pa[n]? = some p) (hud : f = false → idN X.N X.u ≠ idN X.N X.d) :
    RV id s f la n X (roundS id s f la n X) p (if f then s.a else p.t.l) (if la then s.b else p.t.r) (f || decide (0 < turnB s.a s.b p.t.l)) (f || decide (turnB s.a s.b p.t.l < 0)) (la && (!p.t.hr || lessB s.b p.t.r)) (f && (!p.t.hl || lessB p.t.l s.a)) := by
  obtain ⟨hnl, hnp⟩ := I.rest n (by simp)
  have hXn : X.P[n]? = some p := hnp.trans hp
  have hpn := I.nodes p (List.mem_of_getElem? hp)
  have hN0 := I.nN
  have hP0 := I.nP
  unfold roundS
  simp only [hXn, Option.getD_some]
  obtain ⟨N, P, u, d⟩ := X
  simp only at hXn hN0 hP0 hud
  -- the two walls
  have hcu : f = true → (f || decide (0 < turnB s.a s.b p.t.l)) = true := by rintro rfl; rfl
  have hcd : f = true → (f || decide (turnB s.a s.b p.t.l < 0)) = true := by rintro rfl; rfl
  generalize (f || decide (0 < turnB s.a s.b p.t.l)) = cu at *
  generalize (f || decide (turnB s.a s.b p.t.l < 0)) = cd at *
  generalize (la && (!p.t.hr || lessB s.b p.t.r)) = ce at *
  generalize (f && (!p.t.hl || lessB p.t.l s.a)) = cb at *
  generalize (if f then s.a else p.t.l) = l
  generalize (if la then s.b else p.t.r) = r
  have hu0 : cu = false → LeafIn N0 Pa.length ⟨N, P, u, d⟩ u := fun h => (hu (by cases f; rfl; rw [hcu rfl] at h; cases h)).1
  have hd0 : cd = false → LeafIn N0 Pa.length ⟨N, P, u, d⟩ d := fun h => (hu (by cases f; rfl; rw [hcd rfl] at h; cases h)).2
  have hud2 : cu = false → cd = false → idN N u ≠ idN N d := fun h _ => hud (by cases f; rfl; rw [hcu rfl] at h; cases h)
  clear hu hcu hcd hud
  -- nodes and pieces behind the two leaves
  obtain ⟨N2, hN2⟩ : ∃ N2, N2 = (loS cd ⟨id, p.t.bot, true, false, l, ⟨0, 0⟩⟩ (upS cu ⟨p.t.top, id, true, false, l, ⟨0, 0⟩⟩ ⟨N, P, u, d⟩)) := ⟨_, rfl⟩
  rw [← hN2]
  have e1 : N2.P = P ++ ((if cu then [⟨⟨p.t.top, id, true, false, l, ⟨0, 0⟩⟩, (N.length : Int), false⟩] else []) ++ (if cd then [⟨⟨id, p.t.bot, true, false, l, ⟨0, 0⟩⟩, ((N.length + cu.toNat : Nat) : Int), false⟩] else [])) := by
    rw [hN2]; cases cu <;> cases cd <;> simp [upS, loS]
  have e2 : N2.N = N ++ ((if cu then [lfN P.length] else []) ++ (if cd then [lfN (P.length + cu.toNat)] else [])) := by
    rw [hN2]; cases cu <;> cases cd <;> simp [upS, loS]
  have e3 : N2.u = if cu then N.length else u := by rw [hN2]; cases cu <;> cases cd <;> simp [upS, loS]
  have e4 : N2.d = if cd then N.length + cu.toNat else d := by rw [hN2]; cases cu <;> cases cd <;> simp [upS, loS]
  have hPl : N2.P.length = P.length + cu.toNat + cd.toNat := by rw [e1]; cases cu <;> cases cd <;> simp
  have hNl : N2.N.length = N.length + cu.toNat + cd.toNat := by rw [e2]; cases cu <;> cases cd <;> simp
  have iu : idN N2.N N2.u = if cu then P.length else idN N u := by
    cases cu
    · have := (hu0 rfl).lt
      simp only [e3, e2, idN]
      simp only [Bool.false_eq_true, if_false]
      rw [app_lt this]
    · simp only [e3, e2, idN, if_true]
      rw [List.cons_append, app_at rfl]; simp [lfN]
  have idx : idN N2.N N2.d = if cd then P.length + cu.toNat else idN N d := by
    cases cd
    · have := (hd0 rfl).lt
      simp only [e4, e2, idN]
      simp only [Bool.false_eq_true, if_false, List.append_nil]
      rw [app_lt this]
    · simp only [e4, e2, idN, if_true]
      rw [← List.append_assoc, app_at (by cases cu <;> simp)]; simp [lfN]; omega
  have hnP : n < P.length := Nat.lt_of_lt_of_le hnl hP0
  have pu0 : cu = false → idN N u < P.length ∧ Pa.length ≤ idN N u := fun h => by
    obtain ⟨q, _, h2, h3⟩ := (hu0 h).id
    exact ⟨(List.getElem?_eq_some_iff.1 h2).1, h3⟩
  have pd0 : cd = false → idN N d < P.length ∧ Pa.length ≤ idN N d := fun h => by
    obtain ⟨q, _, h2, h3⟩ := (hd0 h).id
    exact ⟨(List.getElem?_eq_some_iff.1 h2).1, h3⟩
  have nu : idN N2.N N2.u ≠ n := by rw [iu]; cases cu; · have := pu0 rfl; simp; omega
                                    · simp; omega
  have nd : idN N2.N N2.d ≠ n := by rw [idx]; cases cd; · have := pd0 rfl; simp; omega
                                    · simp; omega
  have nud : idN N2.N N2.u ≠ idN N2.N N2.d := by
    rw [iu, idx]
    cases cu <;> cases cd <;> simp
    · exact hud2 rfl rfl
    · have := pu0 rfl; omega
    · have := pd0 rfl; omega
  -- the three changes
  obtain ⟨P3, hP3⟩ : ∃ P3, P3 = setG (setR (setR N2.P (idN N2.N N2.u) r) (idN N2.N N2.d) r) n := ⟨_, rfl⟩
  have l3 : P3.length = N2.P.length := by rw [hP3, setG_len, setR_len, setR_len]
  have g0 : ∀ i, i ≠ n → i ≠ idN N2.N N2.u → i ≠ idN N2.N N2.d → P3[i]? = N2.P[i]? := fun i h1 h2 h3 => by rw [hP3, setG_ne h1, setR_ne _ h3, setR_ne _ h2]
  have g1 : P3[n]? = some { p with g := true } := by
    rw [hP3]
    refine setG_at ?_
    rw [setR_ne _ nd.symm, setR_ne _ nu.symm, e1, app_lt hnP]; exact hXn
  have g2 : ∀ q, N2.P[idN N2.N N2.u]? = some q → P3[idN N2.N N2.u]? = some { q with t := { q.t with hr := true, r := r } } := fun q h => by
    rw [hP3, setG_ne nu, setR_ne _ nud]; exact setT_at _ h
  have g3 : ∀ q, N2.P[idN N2.N N2.d]? = some q → P3[idN N2.N N2.d]? = some { q with t := { q.t with hr := true, r := r } } := fun q h => by
    rw [hP3, setG_ne nd]
    refine setT_at _ ?_
    rw [setR_ne _ nud.symm]; exact h
  have eX3 : rtS r n N2 = ⟨N2.N, P3, N2.u, N2.d⟩ := by unfold rtS; rw [hP3]
  rw [eX3]
  -- the rests
  obtain ⟨X4, hX4⟩ : ∃ X4, X4 = endS ce { p.t with hl := true, l := s.b } s.b (⟨N2.N, P3, N2.u, N2.d⟩, ⟨2, id, ⟨0, 0⟩, (N2.u : Int), (N2.d : Int)⟩) := ⟨_, rfl⟩
  obtain ⟨X5, hX5⟩ : ∃ X5, X5 = begS cb { p.t with hr := true, r := s.a } s.a X4 := ⟨_, rfl⟩
  rw [← hX4, ← hX5]
  have f1 : X5.1.u = N2.u ∧ X5.1.d = N2.d := by rw [hX5, hX4]; cases ce <;> cases cb <;> exact ⟨rfl, rfl⟩
  have k4 : Kp ⟨N2.N, P3, N2.u, N2.d⟩ X4.1 := by rw [hX4]; exact endS_kp _ _ _ (⟨N2.N, P3, N2.u, N2.d⟩, _)
  have k5 : Kp X4.1 X5.1 := by rw [hX5]; exact begS_kp _ _ _ _
  have k45 := k4.trans k5
  have l4 : X4.1.P.length = P3.length + ce.toNat := by rw [hX4]; cases ce <;> simp [endS]
  have l5 : X5.1.P.length = P3.length + ce.toNat + cb.toNat := by rw [hX5, ← l4]; cases cb <;> simp [begS]
  have keepP : ∀ i q, P3[i]? = some q → X5.1.P[i]? = some q := fun i q h => (k45.p i (List.getElem?_eq_some_iff.1 h).1).trans h
  have keepN : ∀ i q, i ≠ p.n.toNat → N2.N[i]? = some q → (nodeS p.n.toNat X5).N[i]? = some q := fun i q h1 h => by
    show (X5.1.N.set _ _)[i]? = _
    rw [set_ne h1]; exact (k45.n i (List.getElem?_eq_some_iff.1 h).1).trans h
  have hpn2 : p.n.toNat < N0 := by omega
  have h45 := k45.nl
  simp only at h45
  refine ⟨?_, fun i hi h1 h2 h3 => ?_, keepP _ _ g1, ?_, fun i hi h1 => ?_, ?_, ?_, ?_, ?_, ?_⟩
  · show X5.1.P.length = P.length + _ + _ + _ + _
    omega
  · have hh : P3[i]? = P[i]? := by
      rw [g0 i h1 ?_ ?_, e1, app_lt hi]
      · rw [iu]; cases cu <;> simp at h2 ⊢; · exact h2
        · have : i < P.length := hi; omega
      · rw [idx]; cases cd <;> simp at h3 ⊢; · exact h3
        · have : i < P.length := hi; omega
    show X5.1.P[i]? = P[i]?
    have hi' : i < P.length := hi
    rw [k45.p i (by show i < P3.length; omega)]; exact hh
  · show N.length ≤ (X5.1.N.set _ _).length
    rw [List.length_set]; omega
  · show (X5.1.N.set _ _)[i]? = N[i]?
    have hi' : i < N.length := hi
    rw [set_ne h1, k45.n i (by show i < N2.N.length; omega)]
    show N2.N[i]? = _
    rw [e2, app_lt hi']
  · intro hc
    subst hc
    refine ⟨?_, ?_, ?_⟩
    · show X5.1.u = _
      rw [f1.1, e3]; rfl
    · refine keepN _ _ (by show N.length ≠ _; omega) ?_
      rw [e2, if_pos rfl, List.cons_append]
      exact app_at rfl
    · have := g2 ⟨⟨p.t.top, id, true, false, l, ⟨0, 0⟩⟩, (N.length : Int), false⟩ (by rw [iu, if_pos rfl, e1, if_pos rfl, List.cons_append]; exact app_at rfl)
      rw [iu, if_pos rfl] at this
      exact keepP _ _ this
  · intro hc
    subst hc
    refine ⟨?_, fun q hq => ?_⟩
    · show X5.1.u = _
      rw [f1.1, e3]; rfl
    · have h0 := (pu0 rfl).1
      have hq' : P[idN N u]? = some q := hq
      have := g2 q (by rw [iu, if_neg (by simp), e1, app_lt h0]; exact hq')
      rw [iu, if_neg (by simp)] at this
      exact keepP _ _ this
  · intro hc
    subst hc
    refine ⟨?_, ?_, ?_⟩
    · show X5.1.d = _
      rw [f1.2, e4]; rfl
    · refine keepN _ _ (by show N.length + _ ≠ _; omega) ?_
      rw [e2, if_pos rfl, ← List.append_assoc]
      exact app_at (by cases cu <;> simp)
    · have := g3 ⟨⟨id, p.t.bot, true, false, l, ⟨0, 0⟩⟩, ((N.length + cu.toNat : Nat) : Int), false⟩ (by rw [idx, if_pos rfl, e1, if_pos rfl, ← List.append_assoc]; exact app_at (by cases cu <;> simp))
      rw [idx, if_pos rfl] at this
      exact keepP _ _ this
  · intro hc
    subst hc
    refine ⟨?_, fun q hq => ?_⟩
    · show X5.1.d = _
      rw [f1.2, e4]; rfl
    · have h0 := (pd0 rfl).1
      have hq' : P[idN N d]? = some q := hq
      have := g3 q (by rw [idx, if_neg (by simp), e1, app_lt h0]; exact hq')
      rw [idx, if_neg (by simp)] at this
      exact keepP _ _ this
  · have keep4 : ∀ i q, i ≠ p.n.toNat → X4.1.N[i]? = some q → (nodeS p.n.toNat X5).N[i]? = some q := fun i q h1 h => by
      show (X5.1.N.set _ _)[i]? = _
      rw [set_ne h1]; exact (k5.n i (List.getElem?_eq_some_iff.1 h).1).trans h
    have keep5 : ∀ i q, i ≠ p.n.toNat → X5.1.N[i]? = some q → (nodeS p.n.toNat X5).N[i]? = some q := fun i q h1 h => by
      show (X5.1.N.set _ _)[i]? = _
      rw [set_ne h1]; exact h
    have h4l := k4.nl
    simp only at h4l
    refine ⟨⟨2, id, ⟨0, 0⟩, (X5.1.u : Int), (X5.1.d : Int)⟩, X4.2, X5.2, rfl, ?_, ?_, set_at (by show p.n.toNat < X5.1.N.length; omega)⟩
    · rw [f1.1, f1.2]
      unfold QEnd
      cases ce
      · rw [hX4]; simp [endS]
      · rw [if_pos rfl]
        have a1 : X4.1.N = N2.N ++ [⟨2, id, ⟨0, 0⟩, (N2.u : Int), (N2.d : Int)⟩] ++ [lfN P3.length] := by rw [hX4]; simp [endS]
        have a2 : X4.1.P = P3 ++ [⟨{ p.t with hl := true, l := s.b }, ((N2.N.length + 1 : Nat) : Int), false⟩] := by rw [hX4]; simp [endS]
        refine ⟨N2.N.length, N2.N.length + 1, by show N.length ≤ _; omega, by show N.length ≤ _; omega, keep4 _ _ (by omega) ?_, keep4 _ _ (by omega) ?_, ?_, ?_⟩
        · rw [a1, app_lt (by simp)]; exact app_at rfl
        · rw [show (⟨N, P, u, d⟩ : PSt).P.length + cu.toNat + cd.toNat = P3.length by (show P.length + _ + _ = _); omega, a1]; exact app_at (by simp)
        · show X5.1.P[_]? = _
          have h4 : X4.1.P.length = P3.length + 1 := l4
          rw [k5.p _ (show P.length + cu.toNat + cd.toNat < X4.1.P.length by omega), a2]; exact app_at (by show P.length + _ + _ = _; omega)
        · rw [hX4]; simp [endS]
    · unfold QBeg
      cases cb
      · rw [hX5]; simp [begS]
      · rw [if_pos rfl]
        have a1 : X5.1.N = X4.1.N ++ [lfN X4.1.P.length] ++ [X4.2] := by rw [hX5]; simp [begS]
        have a2 : X5.1.P = X4.1.P ++ [⟨{ p.t with hr := true, r := s.a }, (X4.1.N.length : Int), false⟩] := by rw [hX5]; simp [begS]
        refine ⟨X4.1.N.length + 1, X4.1.N.length, by show N.length ≤ _; omega, by show N.length ≤ _; omega, keep5 _ _ (by omega) ?_, keep5 _ _ (by omega) ?_, ?_, ?_⟩
        · rw [a1]; exact app_at (by simp)
        · rw [a1, app_lt (by simp), show (⟨N, P, u, d⟩ : PSt).P.length + cu.toNat + cd.toNat + ce.toNat = X4.1.P.length by (show P.length + _ + _ + _ = _); omega]; exact app_at rfl
        · show X5.1.P[_]? = _
          rw [a2]; exact app_at (by show P.length + _ + _ + _ = _; omega)
        · rw [hX5]; simp [begS]
end Go.Proofs.Ytlhmjhildlnokaa

/-
  What the rounds of put make: runs of old trapezes above the line and below it, and rests.
-/
namespace Go.Proofs.Ytlhmjhildlnokaa
set_option linter.unusedVariables false
set_option linter.unusedSimpArgs false
open Go.RowKit Go.Sort Go.Shelf
/-! ### What all rounds make: each new piece is a run of old ones, above or below; or a rest -/
section
variable (N : List Nd) (P : List Pc) (id : Int) (s : Sg) (all : List Nat)
def pk (k : Nat) : Pc := (P[(all[k]?).getD 0]?).getD pc0
def upK (k : Nat) : Bool := decide (0 < turnB s.a s.b (pk P all k).t.l)
def dnK (k : Nat) : Bool := decide (turnB s.a s.b (pk P all k).t.l < 0)
def lftK (k : Nat) : Pt := if k = 0 then s.a else (pk P all k).t.l
def rgtK (k : Nat) : Pt := if k + 1 = all.length then s.b else (pk P all k).t.r
def ceK (k : Nat) : Bool := decide (k + 1 = all.length) && (!(pk P all k).t.hr || lessB s.b (pk P all k).t.r)
def cbK (k : Nat) : Bool := decide (k = 0) && (!(pk P all k).t.hl || lessB (pk P all k).t.l s.a)
inductive Kd where
  | U (a b : Nat)
  | D (a b : Nat)
  | L
  | R
def Kd.tag : Kd → Nat × Nat
  | .U a _ => (0, a)
  | .D a _ => (1, a)
  | .L => (2, 0)
  | .R => (3, 0)
def tzK : Kd → Tz
  | .U a b => ⟨(pk P all a).t.top, id, true, true, lftK P s all a, rgtK P s all b⟩
  | .D a b => ⟨id, (pk P all a).t.bot, true, true, lftK P s all a, rgtK P s all b⟩
  | .L => { (pk P all 0).t with hr := true, r := s.a }
  | .R => { (pk P all (all.length - 1)).t with hl := true, l := s.b }
/-- A run from a to b, of what goes on while 'g' is false. -/
def RunK (g : Nat → Bool) (j a b : Nat) : Prop := a ≤ b ∧ b < j ∧ (a = 0 ∨ g a = true) ∧ (∀ i, a < i → i ≤ b → g i = false) ∧ (b + 1 = j ∨ g (b + 1) = true)
def OkK (j : Nat) : Kd → Prop
  | .U a b => RunK (upK P s all) j a b
  | .D a b => RunK (dnK P s all) j a b
  | .L => 0 < j ∧ cbK P s all 0 = true
  | .R => j = all.length ∧ 0 < j ∧ ceK P s all (all.length - 1) = true
theorem run_end {g : Nat → Bool} {j a b b' : Nat} (h : RunK g j a b) (h' : RunK g j a b') : b = b' := by
  obtain ⟨h1, h2, h3, h4, h5⟩ := h
  obtain ⟨g1, g2, g3, g4, g5⟩ := h'
  rcases Nat.lt_trichotomy b b' with q | q | q
  · rcases h5 with h5 | h5
    · omega
    · rw [g4 (b + 1) (by omega) (by omega)] at h5; cases h5
  · exact q
  · rcases g5 with h5 | h5
    · omega
    · rw [h4 (b' + 1) (by omega) (by omega)] at h5; cases h5
theorem run_last {g : Nat → Bool} {j a a' b : Nat} (h : RunK g j a b) (h' : RunK g j a' b) : a = a' := by
  obtain ⟨h1, h2, h3, h4, h5⟩ := h
  obtain ⟨g1, g2, g3, g4, g5⟩ := h'
  rcases Nat.lt_trichotomy a a' with q | q | q
  · rcases g3 with g3 | g3
    · omega
    · rw [h4 a' (by omega) (by omega)] at g3; cases g3
  · exact q
  · rcases h3 with g3 | g3
    · omega
    · rw [g4 a (by omega) (by omega)] at g3; cases g3
/-- What is asked of the line and the trapezes through which it goes. -/
structure CtxK : Prop where
  pcs : ∀ k, k < all.length → ∃ n, all[k]? = some n ∧ P[n]? = some (pk P all k)
  nodup : all.Nodup
  wf : WfP N P
  nn : ∀ k k', k < all.length → k' < all.length → (pk P all k).n.toNat = (pk P all k').n.toNat → k = k'
  ids : ∀ k, k < all.length → (pk P all k).t.top ≠ id ∧ (pk P all k).t.bot ≠ id
  lft : ∀ k k', k < all.length → k' < all.length → lftK P s all k = lftK P s all k' → k = k'
  ab : lessB s.b s.a = false
def AtN (X : PSt) (i n : Nat) (K : Kd) : Prop := N.length ≤ n ∧ X.P[i]? = some ⟨tzK P id s all K, (n : Int), false⟩ ∧ X.N[n]? = some (lfN i)
/-- The question in place of an old leaf. -/
def QK (X : PSt) (k u d : Nat) : Prop := ∃ q1 q2 q3, q1 = (⟨2, id, ⟨0, 0⟩, (u : Int), (d : Int)⟩ : Nd) ∧
  (if ceK P s all k then ∃ c e i : Nat, N.length ≤ c ∧ X.N[c]? = some q1 ∧ P.length ≤ i ∧ AtN N P id s all X i e .R ∧ q2 = ⟨1, 0, s.b, (c : Int), (e : Int)⟩ else q2 = q1) ∧
  (if cbK P s all k then ∃ c e i : Nat, N.length ≤ c ∧ X.N[c]? = some q2 ∧ P.length ≤ i ∧ AtN N P id s all X i e .L ∧ q3 = ⟨1, 0, s.a, (e : Int), (c : Int)⟩ else q3 = q2) ∧
  X.N[(pk P all k).n.toNat]? = some q3
structure CI (j : Nat) (X : PSt) : Prop where
  pl : P.length ≤ X.P.length
  nl : N.length ≤ X.N.length
  oldP : ∀ i, i < P.length → i ∉ all.take j → X.P[i]? = P[i]?
  gone : ∀ i, i ∈ all.take j → ∃ p, X.P[i]? = some p ∧ p.g = true
  oldN : ∀ i, i < N.length → (∀ k, k < j → (pk P all k).n.toNat ≠ i) → X.N[i]? = N[i]?
  new : ∀ i, P.length ≤ i → i < X.P.length → ∃ K n, OkK P s all j K ∧ AtN N P id s all X i n K
  one : ∀ i i' n n' K K', P.length ≤ i → P.length ≤ i' → OkK P s all j K → OkK P s all j K' → AtN N P id s all X i n K → AtN N P id s all X i' n' K' → K.tag = K'.tag → i = i'
  F : ∀ k, k < j → ∃ u d pu pd su eu sd ed, su ≤ k ∧ k ≤ eu ∧ sd ≤ k ∧ k ≤ ed ∧ P.length ≤ pu ∧ P.length ≤ pd ∧ OkK P s all j (.U su eu) ∧ OkK P s all j (.D sd ed) ∧ AtN N P id s all X pu u (.U su eu) ∧ AtN N P id s all X pd d (.D sd ed) ∧
    (k + 1 = j → u = X.u ∧ d = X.d) ∧ QK N P id s all X k u d
variable {N P id s all}
theorem ok_tag {j : Nat} {K K' : Kd} (h : OkK P s all j K) (h' : OkK P s all j K') (ht : K.tag = K'.tag) : K = K' := by
  cases K <;> cases K' <;> simp [Kd.tag] at ht
  · subst ht; rw [run_end h h']
  · subst ht; rw [run_end h h']
  · rfl
  · rfl
theorem tz_tag (C : CtxK N P id s all) {j : Nat} {K K' : Kd} (hj : j ≤ all.length) (h : OkK P s all j K) (h' : OkK P s all j K') (ht : tzK P id s all K = tzK P id s all K') : K.tag = K'.tag := by
  have lt : ∀ {g a b}, RunK g j a b → a < all.length := fun h => Nat.lt_of_le_of_lt h.1 (Nat.lt_of_lt_of_le h.2.1 hj)
  have pos : ∀ {K}, OkK P s all j K → 0 < j := by
    intro K hK
    cases K
    · exact Nat.lt_of_le_of_lt (Nat.zero_le _) hK.2.1
    · exact Nat.lt_of_le_of_lt (Nat.zero_le _) hK.2.1
    · exact hK.1
    · exact hK.2.1
  have hp := pos h
  have i0 := C.ids 0 (by omega)
  have i1 := C.ids (all.length - 1) (by omega)
  have LR : OkK P s all j .L → tzK P id s all .L ≠ tzK P id s all .R := by
    intro h1 e
    simp only [tzK, Tz.mk.injEq] at e
    obtain ⟨_, _, e3, _, e5, _⟩ := e
    have := h1.2
    unfold cbK at this
    rw [e3, e5, C.ab] at this
    simp at this
  cases K <;> cases K'
  · simp only [tzK, Tz.mk.injEq] at ht
    rw [C.lft _ _ (lt h) (lt h') ht.2.2.2.2.1]; rfl
  · simp only [tzK, Tz.mk.injEq] at ht
    exact absurd ht.1 (C.ids _ (lt h)).1
  · simp only [tzK, Tz.mk.injEq] at ht
    exact absurd ht.2.1.symm i0.2
  · simp only [tzK, Tz.mk.injEq] at ht
    exact absurd ht.2.1.symm i1.2
  · simp only [tzK, Tz.mk.injEq] at ht
    exact absurd ht.1.symm (C.ids _ (lt h')).1
  · simp only [tzK, Tz.mk.injEq] at ht
    rw [C.lft _ _ (lt h) (lt h') ht.2.2.2.2.1]; rfl
  · simp only [tzK, Tz.mk.injEq] at ht
    exact absurd ht.1.symm i0.1
  · simp only [tzK, Tz.mk.injEq] at ht
    exact absurd ht.1.symm i1.1
  · simp only [tzK, Tz.mk.injEq] at ht
    exact absurd ht.2.1 i0.2
  · simp only [tzK, Tz.mk.injEq] at ht
    exact absurd ht.1 i0.1
  · rfl
  · exact absurd ht (LR h)
  · simp only [tzK, Tz.mk.injEq] at ht
    exact absurd ht.2.1 i1.2
  · simp only [tzK, Tz.mk.injEq] at ht
    exact absurd ht.1 i1.1
  · exact absurd ht.symm (LR h')
  · rfl
theorem ok_pos {j : Nat} {K : Kd} (hK : OkK P s all j K) : 0 < j := by
  cases K
  · exact Nat.lt_of_le_of_lt (Nat.zero_le _) hK.2.1
  · exact Nat.lt_of_le_of_lt (Nat.zero_le _) hK.2.1
  · exact hK.1
  · exact hK.2.1
theorem at_tz {X : PSt} {i n n' : Nat} {K K' : Kd} (h : AtN N P id s all X i n K) (h' : AtN N P id s all X i n' K') : tzK P id s all K = tzK P id s all K' ∧ n = n' := by
  have := h.2.1.symm.trans h'.2.1
  injection this with this
  simp only [Pc.mk.injEq] at this
  exact ⟨this.1, by omega⟩
theorem CI.start (C : CtxK N P id s all) : CI N P id s all 0 ⟨N, P, 0, 0⟩ where
  pl := Nat.le_refl _
  nl := Nat.le_refl _
  oldP i _ _ := rfl
  gone i hi := by simp at hi
  oldN i _ _ := rfl
  new i h1 h2 := absurd h2 (by show ¬ i < P.length; omega)
  one i i' n n' K K' h1 h2 hK := absurd (ok_pos hK) (by omega)
  F k hk := absurd hk (by omega)
/-- The piece that goes on above, below. -/
theorem CI.curU (C : CtxK N P id s all) {j : Nat} {X : PSt} (H : CI N P id s all j X) (hj : 0 < j) : ∃ pu su, P.length ≤ pu ∧ idN X.N X.u = pu ∧ OkK P s all j (.U su (j - 1)) ∧ AtN N P id s all X pu X.u (.U su (j - 1)) := by
  obtain ⟨u, d, pu, pd, su, eu, sd, ed, h1, h2, h3, h4, h5, h6, h7, h8, h9, h10, h11, h12⟩ := H.F (j - 1) (by omega)
  obtain ⟨rfl, rfl⟩ := h11 (by omega)
  obtain rfl : eu = j - 1 := by have := h7.2.1; omega
  exact ⟨pu, su, h5, by unfold idN; rw [h9.2.2]; simp [lfN], h7, h9⟩
theorem CI.curD (C : CtxK N P id s all) {j : Nat} {X : PSt} (H : CI N P id s all j X) (hj : 0 < j) : ∃ pd sd, P.length ≤ pd ∧ idN X.N X.d = pd ∧ OkK P s all j (.D sd (j - 1)) ∧ AtN N P id s all X pd X.d (.D sd (j - 1)) := by
  obtain ⟨u, d, pu, pd, su, eu, sd, ed, h1, h2, h3, h4, h5, h6, h7, h8, h9, h10, h11, h12⟩ := H.F (j - 1) (by omega)
  obtain ⟨rfl, rfl⟩ := h11 (by omega)
  obtain rfl : ed = j - 1 := by have := h8.2.1; omega
  exact ⟨pd, sd, h6, by unfold idN; rw [h10.2.2]; simp [lfN], h8, h10⟩
/-- A kind, a round later. -/
inductive ExtK : Kd → Kd → Prop
  | same (K) : ExtK K K
  | u (a b) : ExtK (.U a b) (.U a (b + 1))
  | d (a b) : ExtK (.D a b) (.D a (b + 1))
theorem ExtK.tag {K K' : Kd} (h : ExtK K K') : K.tag = K'.tag := by cases h <;> rfl
theorem CI.stab (C : CtxK N P id s all) {j n0 : Nat} {X Y : PSt} (H : CI N P id s all j X) (hj : j < all.length) (hn0 : n0 < P.length)
    (V : RV id s (decide (j = 0)) (decide (j + 1 = all.length)) n0 X Y (pk P all j) (lftK P s all j) (rgtK P s all j) (decide (j = 0) || upK P s all j) (decide (j = 0) || dnK P s all j) (ceK P s all j) (cbK P s all j)) (hon : (pk P all j).n.toNat < N.length)
    {i n : Nat} {K : Kd} (hi : P.length ≤ i) (hK : OkK P s all j K) (hA : AtN N P id s all X i n K) : ∃ K', OkK P s all (j + 1) K' ∧ AtN N P id s all Y i n K' ∧ ExtK K K' := by
  have j0 : 0 < j := ok_pos hK
  obtain ⟨pu, su, u1, u2, u3, u4⟩ := H.curU C j0
  obtain ⟨pd, sd, d1, d2, d3, d4⟩ := H.curD C j0
  have hjl : j ≤ all.length := Nat.le_of_lt hj
  have hf : decide (j = 0) = false := decide_eq_false (by omega)
  rw [hf] at V
  simp only [Bool.false_or] at V
  have iX := (List.getElem?_eq_some_iff.1 hA.2.1).1
  have nX := (List.getElem?_eq_some_iff.1 hA.2.2).1
  have node : Y.N[n]? = some (lfN i) := by
    rw [V.oldN n nX (by have := hA.1; omega)]; exact hA.2.2
  -- who it isn't
  have nu : K.tag ≠ (Kd.U su (j - 1)).tag → i ≠ idN X.N X.u := fun h e => by
    rw [u2] at e; subst e
    exact h (tz_tag C hjl hK u3 (at_tz hA u4).1)
  have nd : K.tag ≠ (Kd.D sd (j - 1)).tag → i ≠ idN X.N X.d := fun h e => by
    rw [d2] at e; subst e
    exact h (tz_tag C hjl hK d3 (at_tz hA d4).1)
  have stay : (upK P s all j = true ∨ i ≠ idN X.N X.u) → (dnK P s all j = true ∨ i ≠ idN X.N X.d) → AtN N P id s all Y i n K := fun h1 h2 =>
    ⟨hA.1, (V.old i iX (by omega) h1 h2).trans hA.2.1, node⟩
  cases K with
  | U a b =>
    obtain ⟨k1, k2, k3, k4, k5⟩ := hK
    have hd : i ≠ idN X.N X.d := nd (by simp [Kd.tag])
    by_cases hb : b + 1 = j
    · obtain rfl : b = j - 1 := by omega
      have : i = idN X.N X.u := by
        rw [u2]
        have e : a = su := run_last (g := upK P s all) (j := j) ⟨k1, k2, k3, k4, k5⟩ u3
        exact H.one _ _ _ _ _ _ hi u1 (show OkK P s all j (.U a (j - 1)) from ⟨k1, k2, k3, k4, k5⟩) u3 hA u4 (by simp [Kd.tag, e])
      cases hu : upK P s all j
      · refine ⟨.U a (j - 1 + 1), ⟨by omega, by omega, k3, fun q q1 q2 => ?_, .inl (by omega)⟩, ⟨hA.1, ?_, node⟩, .u _ _⟩
        · by_cases e : q = j
          · rw [e]; exact hu
          · exact k4 q q1 (by omega)
        · have := (V.u0 hu).2 _ (by rw [← this]; exact hA.2.1)
          rw [← this] at this
          rw [‹i = idN X.N X.u›]
          rw [show j - 1 + 1 = j by omega]
          exact (V.u0 hu).2 _ (by rw [← ‹i = idN X.N X.u›]; exact hA.2.1)
      · exact ⟨.U a (j - 1), ⟨k1, by omega, k3, k4, .inr (by rw [hb]; exact hu)⟩, stay (.inl hu) (.inr hd), .same _⟩
    · have hg : upK P s all (b + 1) = true := by rcases k5 with k5 | k5; · exact absurd k5 hb
                                                 · exact k5
      have hne : a ≠ su := by
        rintro rfl
        have := run_end (g := upK P s all) (j := j) ⟨k1, k2, k3, k4, k5⟩ u3
        omega
      exact ⟨.U a b, ⟨k1, by omega, k3, k4, .inr hg⟩, stay (.inr (nu (by simp [Kd.tag, hne]))) (.inr hd), .same _⟩
  | D a b =>
    obtain ⟨k1, k2, k3, k4, k5⟩ := hK
    have hd : i ≠ idN X.N X.u := nu (by simp [Kd.tag])
    by_cases hb : b + 1 = j
    · obtain rfl : b = j - 1 := by omega
      have : i = idN X.N X.d := by
        rw [d2]
        have e : a = sd := run_last (g := dnK P s all) (j := j) ⟨k1, k2, k3, k4, k5⟩ d3
        exact H.one _ _ _ _ _ _ hi d1 (show OkK P s all j (.D a (j - 1)) from ⟨k1, k2, k3, k4, k5⟩) d3 hA d4 (by simp [Kd.tag, e])
      cases hu : dnK P s all j
      · refine ⟨.D a (j - 1 + 1), ⟨by omega, by omega, k3, fun q q1 q2 => ?_, .inl (by omega)⟩, ⟨hA.1, ?_, node⟩, .d _ _⟩
        · by_cases e : q = j
          · rw [e]; exact hu
          · exact k4 q q1 (by omega)
        · rw [‹i = idN X.N X.d›]
          rw [show j - 1 + 1 = j by omega]
          exact (V.d0 hu).2 _ (by rw [← ‹i = idN X.N X.d›]; exact hA.2.1)
      · exact ⟨.D a (j - 1), ⟨k1, by omega, k3, k4, .inr (by rw [hb]; exact hu)⟩, stay (.inr hd) (.inl hu), .same _⟩
    · have hg : dnK P s all (b + 1) = true := by rcases k5 with k5 | k5; · exact absurd k5 hb
                                                 · exact k5
      have hne : a ≠ sd := by
        rintro rfl
        have := run_end (g := dnK P s all) (j := j) ⟨k1, k2, k3, k4, k5⟩ d3
        omega
      exact ⟨.D a b, ⟨k1, by omega, k3, k4, .inr hg⟩, stay (.inr hd) (.inr (nd (by simp [Kd.tag, hne]))), .same _⟩
  | L => exact ⟨.L, ⟨by omega, hK.2⟩, stay (.inr (nu (by simp [Kd.tag]))) (.inr (nd (by simp [Kd.tag]))), .same _⟩
  | R => exact absurd hK.1 (by omega)
/-- What a round makes anew. -/
theorem CI.newK (C : CtxK N P id s all) {j n0 : Nat} {X Y : PSt} (H : CI N P id s all j X) (hj : j < all.length)
    (V : RV id s (decide (j = 0)) (decide (j + 1 = all.length)) n0 X Y (pk P all j) (lftK P s all j) (rgtK P s all j) (decide (j = 0) || upK P s all j) (decide (j = 0) || dnK P s all j) (ceK P s all j) (cbK P s all j))
    {i : Nat} (h1 : X.P.length ≤ i) (h2 : i < Y.P.length) : ∃ K n, OkK P s all (j + 1) K ∧ AtN N P id s all Y i n K ∧ ((K.tag = (0, j) ∧ i = X.P.length) ∨ (K.tag = (1, j) ∧ i = X.P.length + (decide (j = 0) || upK P s all j).toNat) ∨
      (K.tag = (3, 0) ∧ i = X.P.length + (decide (j = 0) || upK P s all j).toNat + (decide (j = 0) || dnK P s all j).toNat) ∨ (K.tag = (2, 0) ∧ j = 0 ∧ i = X.P.length + (decide (j = 0) || upK P s all j).toNat + (decide (j = 0) || dnK P s all j).toNat + (ceK P s all j).toNat)) := by
  have hpl := V.pl
  have hnl := H.nl
  obtain ⟨q1, q2, q3, _, hq2, hq3, _⟩ := V.q
  have hup : (decide (j = 0) || upK P s all j) = true → j = 0 ∨ upK P s all j = true := fun h => by simpa using h
  have hdn : (decide (j = 0) || dnK P s all j) = true → j = 0 ∨ dnK P s all j = true := fun h => by simpa using h
  have v1 := V.u1
  have v2 := V.d1
  generalize (decide (j = 0) || upK P s all j) = cu at *
  generalize (decide (j = 0) || dnK P s all j) = cd at *
  have b1 := Bool.toNat_le cu
  have b2 := Bool.toNat_le cd
  have b3 := Bool.toNat_le (ceK P s all j)
  have b4 := Bool.toNat_le (cbK P s all j)
  have pos : ∀ b : Bool, 0 < b.toNat → b = true := fun b h => by cases b; simp at h; rfl
  by_cases g1 : i < X.P.length + cu.toNat
  · have hc := pos cu (by omega)
    obtain ⟨_, a2, a3⟩ := v1 hc
    obtain rfl : i = X.P.length := by omega
    exact ⟨.U j j, X.N.length, ⟨Nat.le_refl _, by omega, hup hc, fun _ _ _ => by omega, .inl rfl⟩, ⟨hnl, a3, a2⟩, .inl ⟨rfl, rfl⟩⟩
  by_cases g2 : i < X.P.length + cu.toNat + cd.toNat
  · have hc := pos cd (by omega)
    obtain ⟨_, a2, a3⟩ := v2 hc
    obtain rfl : i = X.P.length + cu.toNat := by omega
    exact ⟨.D j j, X.N.length + cu.toNat, ⟨Nat.le_refl _, by omega, hdn hc, fun _ _ _ => by omega, .inl rfl⟩, ⟨by omega, a3, a2⟩, .inr (.inl ⟨rfl, rfl⟩)⟩
  by_cases g3 : i < X.P.length + cu.toNat + cd.toNat + (ceK P s all j).toNat
  · have hc := pos (ceK P s all j) (by omega)
    unfold QEnd at hq2
    rw [if_pos hc] at hq2
    obtain ⟨c, e, n1, n2, m1, m2, m3, _⟩ := hq2
    obtain rfl : i = X.P.length + cu.toNat + cd.toNat := by omega
    have hm : all.length - 1 = j := by
      unfold ceK at hc
      simp only [Bool.and_eq_true, decide_eq_true_eq] at hc
      omega
    refine ⟨.R, e, ⟨by omega, by omega, by rw [hm]; exact hc⟩, ⟨by omega, ?_, m2⟩, .inr (.inr (.inl ⟨rfl, rfl⟩))⟩
    simp only [tzK, hm]; exact m3
  · have hc := pos (cbK P s all j) (by omega)
    unfold QBeg at hq3
    rw [if_pos hc] at hq3
    obtain ⟨c, e, n1, n2, m1, m2, m3, _⟩ := hq3
    obtain rfl : i = X.P.length + cu.toNat + cd.toNat + (ceK P s all j).toNat := by omega
    have hm : j = 0 := by
      unfold cbK at hc
      simp only [Bool.and_eq_true, decide_eq_true_eq] at hc
      omega
    refine ⟨.L, e, ⟨by omega, by rw [hm] at hc; exact hc⟩, ⟨by omega, ?_, m2⟩, .inr (.inr (.inr ⟨rfl, hm, rfl⟩))⟩
    simp only [tzK]; subst hm; exact m3
theorem CI.step (C : CtxK N P id s all) {j n0 : Nat} {X Y : PSt} (H : CI N P id s all j X) (hj : j < all.length) (hn0 : all[j]? = some n0)
    (V : RV id s (decide (j = 0)) (decide (j + 1 = all.length)) n0 X Y (pk P all j) (lftK P s all j) (rgtK P s all j) (decide (j = 0) || upK P s all j) (decide (j = 0) || dnK P s all j) (ceK P s all j) (cbK P s all j)) : CI N P id s all (j + 1) Y := by
  obtain ⟨n', e1, e2⟩ := C.pcs j hj
  obtain rfl : n' = n0 := by rw [hn0] at e1; injection e1 with e1; exact e1.symm
  have hnP : n' < P.length := (List.getElem?_eq_some_iff.1 e2).1
  have hon : (pk P all j).n.toNat < N.length := by have := C.wf _ (List.mem_of_getElem? e2); omega
  have hpl := V.pl
  have hPl := H.pl
  have hNl := H.nl
  have hjl : j ≤ all.length := Nat.le_of_lt hj
  have take1 : all.take (j + 1) = all.take j ++ [n'] := by rw [List.take_add_one, hn0]; rfl
  have ntake : n' ∉ all.take j := by
    intro h
    obtain ⟨k, hk⟩ := List.getElem?_of_mem h
    have hkj : k < j := by
      have := (List.getElem?_eq_some_iff.1 hk).1
      rw [List.length_take] at this; omega
    rw [List.getElem?_take_of_lt hkj] at hk
    have := (List.getElem?_inj (i := k) (j := j) (by omega) C.nodup).1 (by rw [hk, hn0])
    omega
  have su := fun {i n K} h1 h2 h3 => H.stab (i := i) (n := n) (K := K) C hj hnP V hon h1 h2 h3
  -- old pieces aren't those that go on
  have ou : ∀ i, i < P.length → ((decide (j = 0) || upK P s all j) = true ∨ i ≠ idN X.N X.u) := fun i hi => by
    by_cases h0 : j = 0
    · left; simp [h0]
    · obtain ⟨pu, _, u1, u2, _⟩ := H.curU C (by omega)
      right; omega
  have od : ∀ i, i < P.length → ((decide (j = 0) || dnK P s all j) = true ∨ i ≠ idN X.N X.d) := fun i hi => by
    by_cases h0 : j = 0
    · left; simp [h0]
    · obtain ⟨pu, _, u1, u2, _⟩ := H.curD C (by omega)
      right; omega
  have hnew : ∀ i, P.length ≤ i → i < Y.P.length → ∃ K n, OkK P s all (j + 1) K ∧ AtN N P id s all Y i n K := fun i h1 h2 => by
    by_cases hx : i < X.P.length
    · obtain ⟨K, n, g1, g2⟩ := H.new i h1 hx
      obtain ⟨K', g3, g4, _⟩ := su h1 g1 g2
      exact ⟨K', n, g3, g4⟩
    · obtain ⟨K, n, g1, g2, _⟩ := H.newK C hj V (by omega) h2
      exact ⟨K, n, g1, g2⟩
  -- the place of a kind
  have place : ∀ i n K, P.length ≤ i → OkK P s all (j + 1) K → AtN N P id s all Y i n K →
      (i < X.P.length ∧ ∃ K0, OkK P s all j K0 ∧ AtN N P id s all X i n K0 ∧ K0.tag = K.tag) ∨
      ((K.tag = (0, j) ∧ i = X.P.length) ∨ (K.tag = (1, j) ∧ i = X.P.length + (decide (j = 0) || upK P s all j).toNat) ∨
      (K.tag = (3, 0) ∧ i = X.P.length + (decide (j = 0) || upK P s all j).toNat + (decide (j = 0) || dnK P s all j).toNat) ∨ (K.tag = (2, 0) ∧ j = 0 ∧ i = X.P.length + (decide (j = 0) || upK P s all j).toNat + (decide (j = 0) || dnK P s all j).toNat + (ceK P s all j).toNat)) := by
    intro i n K h1 h2 h3
    have hy := (List.getElem?_eq_some_iff.1 h3.2.1).1
    by_cases hx : i < X.P.length
    · left
      obtain ⟨K0, n0', g1, g2⟩ := H.new i h1 hx
      obtain ⟨K', g3, g4, g5⟩ := su h1 g1 g2
      obtain ⟨a1, a2⟩ := at_tz g4 h3
      subst a2
      exact ⟨hx, K0, g1, g2, g5.tag.trans (tz_tag C (j := j + 1) hj g3 h2 a1)⟩
    · right
      obtain ⟨K', n0', g1, g2, g3⟩ := H.newK C hj V (by omega) hy
      have := tz_tag C (j := j + 1) hj g1 h2 (at_tz g2 h3).1
      rw [← this]; exact g3
  have otag : ∀ K0, OkK P s all j K0 → (∃ a b, a < j ∧ (K0 = .U a b ∨ K0 = .D a b)) ∨ (K0 = .L ∧ 0 < j) := by
    intro K0 h
    cases K0 with
    | U a b => exact .inl ⟨a, b, Nat.lt_of_le_of_lt h.1 h.2.1, .inl rfl⟩
    | D a b => exact .inl ⟨a, b, Nat.lt_of_le_of_lt h.1 h.2.1, .inr rfl⟩
    | L => exact .inr ⟨rfl, h.1⟩
    | R => exact absurd h.1 (by omega)
  refine ⟨by omega, Nat.le_trans H.nl V.nl, fun i h1 h2 => ?_, fun i hi => ?_, fun i h1 h2 => ?_, hnew, fun i i' n n' K K' h1 h2 h3 h4 h5 h6 h7 => ?_, fun k hk => ?_⟩
  · rw [take1, List.mem_append, List.mem_singleton, not_or] at h2
    rw [V.old i (by omega) h2.2 (ou i h1) (od i h1)]
    exact H.oldP i h1 h2.1
  · rw [take1, List.mem_append, List.mem_singleton] at hi
    rcases hi with hi | rfl
    · obtain ⟨p, g1, g2⟩ := H.gone i hi
      have hiP : i < P.length := by
        obtain ⟨k, hk⟩ := List.getElem?_of_mem hi
        have hkl := (List.getElem?_eq_some_iff.1 hk).1
        rw [List.length_take] at hkl
        rw [List.getElem?_take_of_lt (by omega)] at hk
        obtain ⟨n2, b1, b2⟩ := C.pcs k (by omega)
        rw [hk] at b1
        injection b1 with b1
        rw [b1]; exact (List.getElem?_eq_some_iff.1 b2).1
      exact ⟨p, (V.old i (by omega) (by rintro rfl; exact ntake hi) (ou i hiP) (od i hiP)).trans g1, g2⟩
    · exact ⟨_, V.gone, rfl⟩
  · rw [V.oldN i (by omega) (fun e => h2 j (by omega) e.symm)]
    exact H.oldN i h1 fun k hk => h2 k (by omega)
  · rcases place i n K h1 h3 h5 with ⟨_, K0, a1, a2, a3⟩ | a <;> rcases place i' n' K' h2 h4 h6 with ⟨_, K1, b1, b2, b3⟩ | b
    · exact H.one _ _ _ _ _ _ h1 h2 a1 b1 a2 b2 (by rw [a3, b3, h7])
    · exfalso
      rw [← h7, ← a3] at b
      rcases otag K0 a1 with ⟨a, b', hab, rfl | rfl⟩ | ⟨rfl, h0⟩ <;> simp [Kd.tag] at b
      · omega
      · omega
      · omega
    · exfalso
      rw [h7, ← b3] at a
      rcases otag K1 b1 with ⟨a', b', hab, rfl | rfl⟩ | ⟨rfl, h0⟩ <;> simp [Kd.tag] at a
      · omega
      · omega
      · omega
    · rw [← h7] at b
      rcases a with ⟨t, rfl⟩ | ⟨t, rfl⟩ | ⟨t, rfl⟩ | ⟨t, _, rfl⟩ <;> rw [t] at b <;> simp at b <;> omega
  · by_cases hkj : k < j
    · obtain ⟨u, d, pu, pd, su', eu, sd, ed, h1, h2, h3, h4, h5, h6, h7, h8, h9, h10, _, q1, q2, q3, h11, h12, h13, h14⟩ := H.F k hkj
      obtain ⟨Ku, a1, a2, a3⟩ := su h5 h7 h9
      obtain ⟨Kd', b1, b2, b3⟩ := su h6 h8 h10
      obtain ⟨eu', rfl, hu'⟩ : ∃ e, Ku = .U su' e ∧ eu ≤ e := by cases a3; exact ⟨eu, rfl, Nat.le_refl _⟩; exact ⟨eu + 1, rfl, by omega⟩
      obtain ⟨ed', rfl, hd'⟩ : ∃ e, Kd' = .D sd e ∧ ed ≤ e := by cases b3; exact ⟨ed, rfl, Nat.le_refl _⟩; exact ⟨ed + 1, rfl, by omega⟩
      have ce0 : ceK P s all k = false := by unfold ceK; rw [decide_eq_false (by omega)]; rfl
      have keep : ∀ c q, N.length ≤ c → X.N[c]? = some q → Y.N[c]? = some q := fun c q g1 g2 => by
        rw [V.oldN c (List.getElem?_eq_some_iff.1 g2).1 (by omega)]; exact g2
      refine ⟨u, d, pu, pd, su', eu', sd, ed', h1, by omega, h3, by omega, h5, h6, a1, b1, a2, b2, fun h => absurd h (by omega), q1, q2, q3, h11, ?_, ?_, ?_⟩
      · rw [ce0] at h12 ⊢; exact h12
      · cases hcb : cbK P s all k
        · rw [hcb] at h13; exact h13
        · rw [hcb, if_pos rfl] at h13
          rw [if_pos rfl]
          obtain ⟨c, e, i, g1, g2, g3, g4, g5⟩ := h13
          have k0 : k = 0 := by
            unfold cbK at hcb
            simp only [Bool.and_eq_true, decide_eq_true_eq] at hcb
            exact hcb.1
          obtain ⟨K', g6, g7, g8⟩ := su g3 (K := .L) ⟨by omega, by rw [← k0]; exact hcb⟩ g4
          cases g8
          exact ⟨c, e, i, g1, keep c _ g1 g2, g3, g7, g5⟩
      · have hk' : (pk P all k).n.toNat < N.length := by
          obtain ⟨n2, c1, c2⟩ := C.pcs k (by omega)
          have := C.wf _ (List.mem_of_getElem? c2); omega
        rw [V.oldN _ (by omega) (fun e => by have := C.nn _ _ (by omega) hj e; omega)]
        exact h14
    · obtain rfl : k = j := by omega
      have hU : ∃ pu su, su ≤ k ∧ P.length ≤ pu ∧ OkK P s all (k + 1) (.U su k) ∧ AtN N P id s all Y pu Y.u (.U su k) := by
        cases hc : (decide (k = 0) || upK P s all k)
        · have hk0 : 0 < k := by
            simp only [Bool.or_eq_false_iff, decide_eq_false_iff_not] at hc
            omega
          obtain ⟨pu, su', u1, u2, u3, u4⟩ := H.curU C hk0
          obtain ⟨K', a1, a2, a3⟩ := su u1 u3 u4
          have hu0 := (V.u0 hc).1
          rw [← hu0] at a2
          have hne : upK P s all k = false := by simp only [Bool.or_eq_false_iff] at hc; exact hc.2
          cases a3
          · exfalso
            obtain ⟨_, _, _, _, h5⟩ := a1
            rw [show k - 1 + 1 = k by omega] at h5
            rcases h5 with h5 | h5
            · omega
            · rw [hne] at h5; cases h5
          · rw [show k - 1 + 1 = k by omega] at a1 a2
            exact ⟨pu, su', a1.1, u1, a1, a2⟩
        · obtain ⟨a1, a2, a3⟩ := V.u1 hc
          refine ⟨X.P.length, k, Nat.le_refl _, hPl, ⟨Nat.le_refl _, by omega, by simpa using hc, fun _ _ _ => by omega, .inl rfl⟩, ?_⟩
          rw [a1]; exact ⟨hNl, a3, a2⟩
      have hD : ∃ pd sd, sd ≤ k ∧ P.length ≤ pd ∧ OkK P s all (k + 1) (.D sd k) ∧ AtN N P id s all Y pd Y.d (.D sd k) := by
        cases hc : (decide (k = 0) || dnK P s all k)
        · have hk0 : 0 < k := by
            simp only [Bool.or_eq_false_iff, decide_eq_false_iff_not] at hc
            omega
          obtain ⟨pu, su', u1, u2, u3, u4⟩ := H.curD C hk0
          obtain ⟨K', a1, a2, a3⟩ := su u1 u3 u4
          have hu0 := (V.d0 hc).1
          rw [← hu0] at a2
          have hne : dnK P s all k = false := by simp only [Bool.or_eq_false_iff] at hc; exact hc.2
          cases a3
          · exfalso
            obtain ⟨_, _, _, _, h5⟩ := a1
            rw [show k - 1 + 1 = k by omega] at h5
            rcases h5 with h5 | h5
            · omega
            · rw [hne] at h5; cases h5
          · rw [show k - 1 + 1 = k by omega] at a1 a2
            exact ⟨pu, su', a1.1, u1, a1, a2⟩
        · obtain ⟨a1, a2, a3⟩ := V.d1 hc
          refine ⟨X.P.length + (decide (k = 0) || upK P s all k).toNat, k, Nat.le_refl _, by omega, ⟨Nat.le_refl _, by omega, by simpa using hc, fun _ _ _ => by omega, .inl rfl⟩, ?_⟩
          rw [a1]; exact ⟨by omega, a3, a2⟩
      obtain ⟨pu, su', u1, u2, u3, u4⟩ := hU
      obtain ⟨pd, sd, d1, d2, d3, d4⟩ := hD
      obtain ⟨q1, q2, q3, h11, h12, h13, h14⟩ := V.q
      refine ⟨Y.u, Y.d, pu, pd, su', k, sd, k, u1, Nat.le_refl _, d1, Nat.le_refl _, u2, d2, u3, d3, u4, d4, fun _ => ⟨rfl, rfl⟩, q1, q2, q3, h11, ?_, ?_, h14⟩
      · unfold QEnd at h12
        cases hc : ceK P s all k
        · rw [hc] at h12; exact h12
        · rw [hc, if_pos rfl] at h12
          rw [if_pos rfl]
          obtain ⟨c, e, n1, n2, m1, m2, m3, m4⟩ := h12
          have hm : all.length - 1 = k := by
            unfold ceK at hc
            simp only [Bool.and_eq_true, decide_eq_true_eq] at hc
            omega
          exact ⟨c, e, _, by omega, m1, by omega, ⟨by omega, by simp only [tzK, hm]; exact m3, m2⟩, m4⟩
      · unfold QBeg at h13
        cases hc : cbK P s all k
        · rw [hc] at h13; exact h13
        · rw [hc, if_pos rfl] at h13
          rw [if_pos rfl]
          obtain ⟨c, e, n1, n2, m1, m2, m3, m4⟩ := h13
          have hm : k = 0 := by
            unfold cbK at hc
            simp only [Bool.and_eq_true, decide_eq_true_eq] at hc
            exact hc.1
          exact ⟨c, e, _, by omega, m1, by omega, ⟨by omega, by simp only [tzK]; rw [hm] at m3; rw [hm]; exact m3, m2⟩, m4⟩
theorem rounds_CI (C : CtxK N P id s all) (hg : ∀ k, k < all.length → (pk P all k).g = false) : ∀ j, j ≤ all.length → CI N P id s all j (roundsS id s all j ⟨N, P, 0, 0⟩)
  | 0, _ => CI.start C
  | j + 1, hj => by
    have H := rounds_CI C hg j (by omega)
    obtain ⟨n, e1, e2⟩ := C.pcs j (by omega)
    have hin : ∀ n ∈ all, ∃ p, P[n]? = some p ∧ p.g = false := fun n hn => by
      obtain ⟨k, hk⟩ := List.getElem?_of_mem hn
      have hkl := (List.getElem?_eq_some_iff.1 hk).1
      obtain ⟨n2, b1, b2⟩ := C.pcs k hkl
      rw [hk] at b1
      injection b1 with b1
      exact ⟨_, by rw [b1]; exact b2, hg k hkl⟩
    obtain ⟨I, L, _⟩ := roundsS_size (id := id) (s := s) C.wf C.nodup hin j (by omega)
    have hdrop : all.drop j = n :: all.drop (j + 1) := by
      rw [List.drop_eq_getElem_cons (List.getElem?_eq_some_iff.1 e1).1, (List.getElem?_eq_some_iff.1 e1).2]
    rw [hdrop] at I
    have e : roundsS id s all (j + 1) ⟨N, P, 0, 0⟩ = roundS id s (decide (j = 0)) (decide (j + 1 = all.length)) n (roundsS id s all j ⟨N, P, 0, 0⟩) := by
      show roundS id s _ _ ((all[j]?).getD 0) _ = _
      rw [e1]; rfl
    rw [e]
    have V := roundS_view (id := id) (s := s) (f := decide (j = 0)) (la := decide (j + 1 = all.length)) I (fun h => L (by have := of_decide_eq_false h; omega)) e2 (fun h => by
      have hj0 : 0 < j := by have := of_decide_eq_false h; omega
      obtain ⟨pu, su', u1, u2, u3, u4⟩ := H.curU C hj0
      obtain ⟨pd, sd, d1, d2, d3, d4⟩ := H.curD C hj0
      intro hh
      rw [u2, d2] at hh
      subst hh
      have := tz_tag C (by omega) u3 d3 (at_tz u4 d4).1
      simp [Kd.tag] at this)
    refine H.step C (by omega) e1 ?_
    have q1 : (if decide (j = 0) = true then s.a else (pk P all j).t.l) = lftK P s all j := by unfold lftK; simp only [decide_eq_true_eq]
    have q2 : (if decide (j + 1 = all.length) = true then s.b else (pk P all j).t.r) = rgtK P s all j := by unfold rgtK; simp only [decide_eq_true_eq]
    rw [q1, q2] at V
    exact V
end
end Go.Proofs.Ytlhmjhildlnokaa

/-
  Lines, seen a little from the side (of two points the lesser one stands left): how high they stand at a place; those that don't meet keep their order. No walk stands here.
-/
namespace Go.Proofs.Ytlhmjhildlnokaa
set_option linter.unusedVariables false
set_option linter.unusedSimpArgs false

theorem rat_pos_of_mul {a b : Rat} (h : 0 < a * b) (hb : 0 < b) : 0 < a := by
  by_cases ha : 0 < a
  · exact ha
  · have h1 : 0 ≤ -a := by grind
    have := Rat.mul_nonneg h1 (Rat.le_of_lt hb)
    grind
theorem rat_mul_pos {a b : Rat} (ha : 0 < a) (hb : 0 < b) : 0 < a * b := Rat.mul_pos ha hb
theorem rat_zero_of_mul {a b : Rat} (h : a * b = 0) (hb : 0 < b) : a = 0 := by
  rcases Rat.mul_eq_zero.1 h with h | h
  · exact h
  · grind
structure Ln where
  x1 : Rat
  y1 : Rat
  x2 : Rat
  y2 : Rat
def Ln.m (s : Ln) : Rat := (s.y2 - s.y1) / (s.x2 - s.x1)
def Ln.at (s : Ln) (x : Rat) : Rat := s.y1 + s.m * (x - s.x1)
def Ln.spans (s : Ln) (x : Rat) : Prop := s.x1 < x ∧ x < s.x2
theorem Ln.at_1 (s : Ln) : s.at s.x1 = s.y1 := by unfold Ln.at; grind
theorem Ln.at_2 (s : Ln) (h : s.x1 < s.x2) : s.at s.x2 = s.y2 := by
  unfold Ln.at Ln.m
  have : s.x2 - s.x1 ≠ 0 := by grind
  grind
theorem Ln.affine (s : Ln) (x y : Rat) : s.at y - s.at x = s.m * (y - x) := by unfold Ln.at; grind
/-- They don't cross. -/
def Ln.Sep (s t : Ln) : Prop := ∀ x, s.spans x → t.spans x → s.at x ≠ t.at x
theorem Ln.Sep.symm {s t : Ln} (h : s.Sep t) : t.Sep s := fun x h1 h2 e => h x h2 h1 e.symm
/-- What stands above stays above. -/
theorem Ln.Sep.keeps {s t : Ln} (h : s.Sep t) {x y : Rat} (sx : s.spans x) (tx : t.spans x) (sy : s.spans y) (ty : t.spans y) (hlt : s.at x < t.at x) : s.at y < t.at y := by
  by_cases hy : s.at y < t.at y
  · exact hy
  exfalso
  have hne := h y sy ty
  -- where they cross
  generalize hd : t.at x - s.at x = d
  generalize he : s.at y - t.at y = e
  have d0 : 0 < d := by grind
  have e0 : 0 < e := by grind
  have de : 0 < d + e := by grind
  have de' : d + e ≠ 0 := by grind
  generalize hz : (x * e + y * d) / (d + e) = z
  have hz' : z * (d + e) = x * e + y * d := by rw [← hz]; exact Rat.div_mul_cancel de'
  have a1 := s.affine x z
  have a2 := t.affine x z
  have a3 := s.affine x y
  have a4 := t.affine x y
  have lo : ∀ c : Rat, c < x → c < y → c < z := fun c h1 h2 => by
    have p1 := rat_mul_pos (by grind : 0 < x - c) e0
    have p2 := rat_mul_pos (by grind : 0 < y - c) d0
    have : 0 < (z - c) * (d + e) := by grind
    have := rat_pos_of_mul this de
    grind
  have hi : ∀ c : Rat, x < c → y < c → z < c := fun c h1 h2 => by
    have p1 := rat_mul_pos (by grind : 0 < c - x) e0
    have p2 := rat_mul_pos (by grind : 0 < c - y) d0
    have : 0 < (c - z) * (d + e) := by grind
    have := rat_pos_of_mul this de
    grind
  have sz : s.spans z := ⟨lo _ sx.1 sy.1, hi _ sx.2 sy.2⟩
  have tz : t.spans z := ⟨lo _ tx.1 ty.1, hi _ tx.2 ty.2⟩
  refine h z sz tz ?_
  -- (s - t) at z, times d + e
  have e1 : (s.at z - t.at z) * (d + e) = 0 := by
    have b1 : s.at z - t.at z = (s.m - t.m) * (z - x) - d := by grind
    have b2 : (s.m - t.m) * (y - x) = d + e := by grind
    have b3 : (z - x) * (d + e) = (y - x) * d := by grind
    have : (s.at z - t.at z) * (d + e) = (s.m - t.m) * ((z - x) * (d + e)) - d * (d + e) := by rw [b1]; grind
    rw [this, b3]
    grind
  have := rat_zero_of_mul e1 de
  grind
def Xi (p : Pt) : Int := p.x * 1073741824 + p.y
def Xr (p : Pt) : Rat := (Xi p : Rat)
def Yr (p : Pt) : Rat := (p.y : Rat)
theorem less_Xi {a b : Pt} (ha : InP a) (hb : InP b) : LessP a b ↔ Xi a < Xi b := by
  unfold LessP Xi InP at *; omega
theorem Xi_inj {a b : Pt} (ha : InP a) (hb : InP b) (h : Xi a = Xi b) : a = b := by
  obtain ⟨x, y⟩ := a; obtain ⟨u, v⟩ := b
  unfold Xi InP at *
  simp only at *
  have : x = u := by omega
  have : y = v := by omega
  simp [*]
theorem less_Xr {a b : Pt} (ha : InP a) (hb : InP b) : LessP a b ↔ Xr a < Xr b := by
  rw [less_Xi ha hb]; unfold Xr; exact Rat.intCast_lt_intCast.symm
theorem cross_r (a b c : Pt) : (Xr b - Xr a) * (Yr c - Yr a) - (Yr b - Yr a) * (Xr c - Xr a) = 1073741824 * (crossZ a b c : Rat) := by
  unfold Xr Yr Xi crossZ
  simp only [Rat.intCast_add, Rat.intCast_mul, Rat.intCast_sub]
  grind
def lnOf (a b : Pt) : Ln := ⟨Xr a, Yr a, Xr b, Yr b⟩
theorem at_cross {a b : Pt} (h : Xr a < Xr b) (c : Pt) : (Yr c - (lnOf a b).at (Xr c)) * (Xr b - Xr a) = 1073741824 * (crossZ a b c : Rat) := by
  rw [← cross_r]
  unfold Ln.at Ln.m lnOf
  simp only
  have : Xr b - Xr a ≠ 0 := by grind
  grind
theorem at_pos {a b : Pt} (h : Xr a < Xr b) (c : Pt) : (lnOf a b).at (Xr c) < Yr c ↔ 0 < crossZ a b c := by
  have e := at_cross h c
  have hp : 0 < Xr b - Xr a := by grind
  rw [← Rat.intCast_lt_intCast]
  constructor
  · intro h1
    have := rat_mul_pos (by grind : 0 < Yr c - (lnOf a b).at (Xr c)) hp
    grind
  · intro h1
    have : 0 < (Yr c - (lnOf a b).at (Xr c)) * (Xr b - Xr a) := by grind
    have := rat_pos_of_mul this hp
    grind
theorem at_neg {a b : Pt} (h : Xr a < Xr b) (c : Pt) : Yr c < (lnOf a b).at (Xr c) ↔ crossZ a b c < 0 := by
  have e := at_cross h c
  have hp : 0 < Xr b - Xr a := by grind
  rw [← Rat.intCast_lt_intCast]
  constructor
  · intro h1
    have := rat_mul_pos (by grind : 0 < (lnOf a b).at (Xr c) - Yr c) hp
    grind
  · intro h1
    have : 0 < ((lnOf a b).at (Xr c) - Yr c) * (Xr b - Xr a) := by grind
    have := rat_pos_of_mul this hp
    grind
theorem at_zero {a b : Pt} (h : Xr a < Xr b) (c : Pt) : Yr c = (lnOf a b).at (Xr c) ↔ crossZ a b c = 0 := by
  have h1 := at_pos h c
  have h2 := at_neg h c
  constructor
  · intro e
    have h3 : ¬ (lnOf a b).at (Xr c) < Yr c := by grind
    have h4 : ¬ Yr c < (lnOf a b).at (Xr c) := by grind
    rw [h1] at h3
    rw [h2] at h4
    omega
  · intro e
    have h3 : ¬ 0 < crossZ a b c := by omega
    have h4 : ¬ crossZ a b c < 0 := by omega
    rw [← h1] at h3
    rw [← h2] at h4
    grind
theorem tsgn_pos {n : Int} (h : 0 < n) : sgnZ n = 1 := by unfold sgnZ; rw [if_neg (by omega), if_pos h]
theorem tsgn_neg {n : Int} (h : n < 0) : sgnZ n = -1 := by unfold sgnZ; rw [if_pos h]
theorem tsgn_zero {n : Int} (h : n = 0) : sgnZ n = 0 := by subst h; rfl
theorem on_no {p a b : Pt} (ip : InP p) (ia : InP a) (ib : InP b) (hz : crossZ a b p = 0) (h : onL p a b = false) : ¬ (Xr a < Xr p ∧ Xr p < Xr b) := by
  rintro ⟨h1, h2⟩
  unfold onL turnZ betwB lessB at h
  rw [tsgn_zero hz, decide_eq_true ((less_Xr ia ip).2 h1), decide_eq_true ((less_Xr ip ib).2 h2)] at h
  simp at h
/-- Two lines that don't meet don't cross. -/
theorem sep_of {a b c d : Pt} (ia : InP a) (ib : InP b) (ic : InP c) (id : InP d) (hab : Xr a < Xr b) (hcd : Xr c < Xr d) (h : meetL a b c d = false) : (lnOf a b).Sep (lnOf c d) := by
  intro x s t e
  have s1 : Xr a < x := s.1
  have s2 : x < Xr b := s.2
  have t1 : Xr c < x := t.1
  have t2 : x < Xr d := t.2
  have aa : (lnOf a b).at (Xr a) = Yr a := (lnOf a b).at_1
  have ab : (lnOf a b).at (Xr b) = Yr b := (lnOf a b).at_2 hab
  have cc : (lnOf c d).at (Xr c) = Yr c := (lnOf c d).at_1
  have cd : (lnOf c d).at (Xr d) = Yr d := (lnOf c d).at_2 hcd
  have ea := (lnOf a b).affine x (Xr a)
  have eb := (lnOf a b).affine x (Xr b)
  have ec := (lnOf a b).affine x (Xr c)
  have ed := (lnOf a b).affine x (Xr d)
  have fa := (lnOf c d).affine x (Xr a)
  have fb := (lnOf c d).affine x (Xr b)
  have fc := (lnOf c d).affine x (Xr c)
  have fd := (lnOf c d).affine x (Xr d)
  generalize hm : (lnOf a b).m = m at *
  generalize hk : (lnOf c d).m = k at *
  simp only [meetL, Bool.or_eq_false_iff] at h
  obtain ⟨⟨o1, o2, o3, o4⟩, sm, ap⟩ := h
  have pa := at_pos hcd a
  have na := at_neg hcd a
  have za := at_zero hcd a
  have pb := at_pos hcd b
  have nb := at_neg hcd b
  have zb := at_zero hcd b
  have pc := at_pos hab c
  have nc := at_neg hab c
  have zc := at_zero hab c
  have pd := at_pos hab d
  have nd := at_neg hab d
  have zd := at_zero hab d
  have tri : k < m ∨ m < k ∨ m = k := by grind
  rcases tri with hlt | hlt | heq
  · have q1 := rat_mul_pos (by grind : 0 < m - k) (by grind : 0 < x - Xr a)
    have q2 := rat_mul_pos (by grind : 0 < m - k) (by grind : 0 < Xr b - x)
    have q3 := rat_mul_pos (by grind : 0 < m - k) (by grind : 0 < x - Xr c)
    have q4 := rat_mul_pos (by grind : 0 < m - k) (by grind : 0 < Xr d - x)
    have r1 := na.1 (by grind)
    have r2 := pb.1 (by grind)
    have r3 := pc.1 (by grind)
    have r4 := nd.1 (by grind)
    unfold apartB turnZ at ap
    rw [tsgn_neg r1, tsgn_pos r2, tsgn_pos r3, tsgn_neg r4] at ap
    simp at ap
  · have q1 := rat_mul_pos (by grind : 0 < k - m) (by grind : 0 < x - Xr a)
    have q2 := rat_mul_pos (by grind : 0 < k - m) (by grind : 0 < Xr b - x)
    have q3 := rat_mul_pos (by grind : 0 < k - m) (by grind : 0 < x - Xr c)
    have q4 := rat_mul_pos (by grind : 0 < k - m) (by grind : 0 < Xr d - x)
    have r1 := pa.1 (by grind)
    have r2 := nb.1 (by grind)
    have r3 := nc.1 (by grind)
    have r4 := pd.1 (by grind)
    unfold apartB turnZ at ap
    rw [tsgn_pos r1, tsgn_neg r2, tsgn_neg r3, tsgn_pos r4] at ap
    simp at ap
  · subst heq
    have r1 := za.1 (by grind)
    have r2 := zb.1 (by grind)
    have r3 := zc.1 (by grind)
    have r4 := zd.1 (by grind)
    have n1 := on_no ia ic id r1 o1
    have n2 := on_no ib ic id r2 o2
    have n3 := on_no ic ia ib r3 o3
    have n4 := on_no id ia ib r4 o4
    clear ea eb ec ed fa fb fc fd pa na za pb nb zb pc nc zc pd nd zd aa ab cc cd e r1 r2 r3 r4 o1 o2 o3 o4 ap hm hk
    have eac : Xr a = Xr c := by grind
    have ebd : Xr b = Xr d := by grind
    have hac : a = c := Xi_inj ia ic (Rat.intCast_inj.1 eac)
    have hbd : b = d := Xi_inj ib id (Rat.intCast_inj.1 ebd)
    subst hac hbd
    simp [sameB] at sm
end Go.Proofs.Ytlhmjhildlnokaa

/-
  Lines at their ends, lines out of one point. (The same laws stand in EulG: no text imports both.)
-/
namespace Go.Proofs.Ytlhmjhildlnokaa
set_option linter.unusedVariables false
set_option linter.unusedSimpArgs false
theorem Ln.cross {s t : Ln} {x y : Rat} (h1 : s.at x < t.at x) (h2 : t.at y < s.at y) : ∃ z, (x < z ∧ z < y ∨ y < z ∧ z < x) ∧ s.at z = t.at z := by
  generalize hd : t.at x - s.at x = d
  generalize he : s.at y - t.at y = e
  have d0 : 0 < d := by grind
  have e0 : 0 < e := by grind
  have de : 0 < d + e := by grind
  have de' : d + e ≠ 0 := by grind
  generalize hz : (x * e + y * d) / (d + e) = z
  have hz' : z * (d + e) = x * e + y * d := by rw [← hz]; exact Rat.div_mul_cancel de'
  have a1 := s.affine x z
  have a2 := t.affine x z
  have a3 := s.affine x y
  have a4 := t.affine x y
  have hxy : x ≠ y := by rintro rfl; grind
  refine ⟨z, ?_, ?_⟩
  · have hlt : x < y ∨ y < x := by grind
    rcases hlt with hlt | hlt
    · left
      have p1 := rat_mul_pos (by grind : 0 < y - x) e0
      have p2 := rat_mul_pos (by grind : 0 < y - x) d0
      have q1 : 0 < (z - x) * (d + e) := by grind
      have q2 : 0 < (y - z) * (d + e) := by grind
      have := rat_pos_of_mul q1 de
      have := rat_pos_of_mul q2 de
      grind
    · right
      have p1 := rat_mul_pos (by grind : 0 < x - y) e0
      have p2 := rat_mul_pos (by grind : 0 < x - y) d0
      have q1 : 0 < (x - z) * (d + e) := by grind
      have q2 : 0 < (z - y) * (d + e) := by grind
      have := rat_pos_of_mul q1 de
      have := rat_pos_of_mul q2 de
      grind
  · have e1 : (s.at z - t.at z) * (d + e) = 0 := by
      have b1 : s.at z - t.at z = (s.m - t.m) * (z - x) - d := by grind
      have b2 : (s.m - t.m) * (y - x) = d + e := by grind
      have b3 : (z - x) * (d + e) = (y - x) * d := by grind
      have : (s.at z - t.at z) * (d + e) = (s.m - t.m) * ((z - x) * (d + e)) - d * (d + e) := by rw [b1]; grind
      rw [this, b3]
      grind
    have := rat_zero_of_mul e1 de
    grind
/-- A place of the closed span. -/
def Ln.near (s : Ln) (x : Rat) : Prop := s.x1 ≤ x ∧ x ≤ s.x2
/-- The order within, and where they end. -/
theorem Ln.Sep.ends {s t : Ln} (h : s.Sep t) {x y : Rat} (sx : s.spans x) (tx : t.spans x) (sy : s.near y) (ty : t.near y) (hne : s.at y ≠ t.at y) : s.at x < t.at x ↔ s.at y < t.at y := by
  have no : ∀ z, (x < z ∧ z < y ∨ y < z ∧ z < x) → s.at z ≠ t.at z := by
    intro z hz
    unfold Ln.spans at sx tx
    unfold Ln.near at sy ty
    exact h z (by unfold Ln.spans; grind) (by unfold Ln.spans; grind)
  have hx := h x sx tx
  constructor
  · intro h1
    by_cases h2 : s.at y < t.at y
    · exact h2
    · obtain ⟨z, hz, e⟩ := Ln.cross h1 (by grind : t.at y < s.at y)
      exact absurd e (no z hz)
  · intro h1
    by_cases h2 : s.at x < t.at x
    · exact h2
    · obtain ⟨z, hz, e⟩ := Ln.cross h1 (by grind : t.at x < s.at x)
      exact absurd e (no z (by grind))
theorem inP_b {p : Pt} (h : inB p = true) : InP p := of_decide_eq_true h

theorem Xr_lt {a b : Pt} : Xr a < Xr b ↔ Xi a < Xi b := Rat.intCast_lt_intCast

theorem Ln.fan_r {s t : Ln} {x0 x y : Rat} (h : s.at x0 = t.at x0) (hx : x0 < x) (hy : x0 < y) : s.at x < t.at x ↔ s.at y < t.at y := by
  have a1 := s.affine x0 x
  have a2 := t.affine x0 x
  have a3 := s.affine x0 y
  have a4 := t.affine x0 y
  have key : ∀ z, x0 < z → (s.at z < t.at z ↔ s.m < t.m) := by
    intro z hz
    have a1 := s.affine x0 z
    have a2 := t.affine x0 z
    have hp : 0 < z - x0 := by grind
    constructor
    · intro h1
      have : 0 < (t.m - s.m) * (z - x0) := by grind
      have := rat_pos_of_mul this hp
      grind
    · intro h1
      have := rat_mul_pos (by grind : 0 < t.m - s.m) hp
      grind
  rw [key x hx, key y hy]

theorem Ln.fan_l {s t : Ln} {x0 x y : Rat} (h : s.at x0 = t.at x0) (hx : x < x0) (hy : y < x0) : s.at x < t.at x ↔ s.at y < t.at y := by
  have key : ∀ z, z < x0 → (s.at z < t.at z ↔ t.m < s.m) := by
    intro z hz
    have a1 := s.affine x0 z
    have a2 := t.affine x0 z
    have hp : 0 < x0 - z := by grind
    constructor
    · intro h1
      have : 0 < (s.m - t.m) * (x0 - z) := by grind
      have := rat_pos_of_mul this hp
      grind
    · intro h1
      have := rat_mul_pos (by grind : 0 < s.m - t.m) hp
      grind
  rw [key x hx, key y hy]

end Go.Proofs.Ytlhmjhildlnokaa

/-
  Lines that do not cross, trapezes between them: two with a point in common are one.
-/
namespace Go.Proofs.Ytlhmjhildlnokaa
set_option linter.unusedVariables false
set_option linter.unusedSimpArgs false
open Go.RowKit Go.Sort Go.Shelf
/-! ### Near a place -/
def Nr (a : Rat) (P : Rat → Prop) : Prop := ∃ d : Rat, 0 < d ∧ ∀ x, a - d < x → x < a + d → P x
theorem Nr.and {a : Rat} {P Q : Rat → Prop} (h : Nr a P) (g : Nr a Q) : Nr a fun x => P x ∧ Q x := by
  obtain ⟨d, d0, hd⟩ := h
  obtain ⟨e, e0, he⟩ := g
  by_cases hde : d ≤ e
  · exact ⟨d, d0, fun x h1 h2 => ⟨hd x h1 h2, he x (by grind) (by grind)⟩⟩
  · exact ⟨e, e0, fun x h1 h2 => ⟨hd x (by grind) (by grind), he x h1 h2⟩⟩
theorem Nr.mono {a : Rat} {P Q : Rat → Prop} (h : Nr a P) (g : ∀ x, P x → Q x) : Nr a Q := by
  obtain ⟨d, d0, hd⟩ := h
  exact ⟨d, d0, fun x h1 h2 => g x (hd x h1 h2)⟩
theorem Nr.all {a : Rat} {P : Rat → Prop} (h : ∀ x, P x) : Nr a P := ⟨1, by decide, fun x _ _ => h x⟩
theorem Nr.gt {a c : Rat} (h : c < a) : Nr a fun x => c < x := ⟨a - c, by grind, fun x h1 h2 => by grind⟩
theorem Nr.lt {a c : Rat} (h : a < c) : Nr a fun x => x < c := ⟨c - a, by grind, fun x h1 h2 => by grind⟩
theorem Nr.imp {a : Rat} {p : Prop} {P : Rat → Prop} (h : p → Nr a P) : Nr a fun x => p → P x := by
  by_cases hp : p
  · exact (h hp).mono fun x hx _ => hx
  · exact Nr.all fun x h => absurd h hp
theorem Nr.lin {a v m : Rat} (hv : 0 < v) : Nr a fun x => 0 < v + m * (x - a) := by
  have key : ∀ M : Rat, 0 ≤ M → ∃ d : Rat, 0 < d ∧ M * d < v := by
    intro M hM
    have h1 : (0 : Rat) < M + 1 := by grind
    have h2 : (0 : Rat) < v / (M + 1) := by
      rw [Rat.div_def]; exact Rat.mul_pos hv (Rat.inv_pos.2 h1)
    refine ⟨v / (M + 1), h2, ?_⟩
    have h3 : v / (M + 1) * (M + 1) = v := Rat.div_mul_cancel (by grind)
    grind
  by_cases hm : 0 ≤ m
  · obtain ⟨d, d0, hd⟩ := key m hm
    refine ⟨d, d0, fun x h1 h2 => ?_⟩
    have := Rat.mul_nonneg hm (by grind : 0 ≤ x - a + d)
    grind
  · obtain ⟨d, d0, hd⟩ := key (-m) (by grind)
    refine ⟨d, d0, fun x h1 h2 => ?_⟩
    have := Rat.mul_nonneg (by grind : 0 ≤ -m) (by grind : 0 ≤ a + d - x)
    grind
theorem Nr.below {a : Rat} {s t : Ln} (h : s.at a < t.at a) : Nr a fun x => s.at x < t.at x := by
  refine (Nr.lin (a := a) (m := t.m - s.m) (by grind : 0 < t.at a - s.at a)).mono fun x hx => ?_
  have h1 := s.affine a x
  have h2 := t.affine a x
  grind
theorem Nr.avoid {a : Rat} : ∀ (E : List Rat), Nr a fun x => ∀ e ∈ E, e ≠ a → x ≠ e
  | [] => Nr.all fun x e he => by simp at he
  | e :: E => by
    have h : Nr a fun x => e ≠ a → x ≠ e := Nr.imp fun he => by
      rcases (by grind : e < a ∨ a < e) with q | q
      · exact (Nr.gt q).mono fun x hx => by grind
      · exact (Nr.lt q).mono fun x hx => by grind
    refine (h.and (Nr.avoid E)).mono fun x hx => ?_
    intro f hf
    rcases List.mem_cons.1 hf with rfl | hf
    · exact hx.1
    · exact hx.2 f hf
theorem Nr.right {a : Rat} {P : Rat → Prop} (h : Nr a P) : ∃ x, a < x ∧ P x := by
  obtain ⟨d, d0, hd⟩ := h
  exact ⟨a + d / 2, by grind, hd _ (by grind) (by grind)⟩
theorem Nr.left {a : Rat} {P : Rat → Prop} (h : Nr a P) : ∃ x, x < a ∧ P x := by
  obtain ⟨d, d0, hd⟩ := h
  exact ⟨a - d / 2, by grind, hd _ (by grind) (by grind)⟩
/-- A place between two, but for some. -/
theorem between {a b : Rat} (h : a < b) (E : List Rat) : ∃ x, a < x ∧ x < b ∧ x ∉ E := by
  obtain ⟨x, h1, h2, h3⟩ := ((Nr.lt h).and (Nr.avoid (a := a) E)).right
  exact ⟨x, h1, h2, fun hx => h3 x hx (by grind) rfl⟩

/-! ### Lines that don't cross, and trapezes between them -/
def lnS (s : Sg) : Ln := lnOf s.a s.b
structure SOk (S : List (Int × Sg)) : Prop where
  ids : ∀ q ∈ S, q.1 ≠ 0
  keys : (S.map (·.1)).Nodup
  rng : ∀ q ∈ S, InP q.2.a ∧ InP q.2.b ∧ Xi q.2.a < Xi q.2.b
  sep : ∀ q ∈ S, ∀ r ∈ S, q ≠ r → (lnS q.2).Sep (lnS r.2)
  off : ∀ q ∈ S, ∀ r ∈ S, ∀ e, (e = r.2.a ∨ e = r.2.b) → (lnS q.2).spans (Xr e) → (lnS q.2).at (Xr e) ≠ Yr e
def EndS (S : List (Int × Sg)) (e : Pt) : Prop := ∃ q ∈ S, e = q.2.a ∨ e = q.2.b
def InX (t : Tz) (x : Rat) : Prop := (t.hl = true → Xr t.l < x) ∧ (t.hr = true → x < Xr t.r)
def botL (S : List (Int × Sg)) (t : Tz) : Ln := lnS (sgOf S t.bot)
def topL (S : List (Int × Sg)) (t : Tz) : Ln := lnS (sgOf S t.top)
structure InT (S : List (Int × Sg)) (t : Tz) (x y : Rat) : Prop where
  ix : InX t x
  lo : t.bot ≠ 0 → (botL S t).at x < y
  hi : t.top ≠ 0 → y < (topL S t).at x
structure Val (S : List (Int × Sg)) (t : Tz) : Prop where
  bot : t.bot ≠ 0 → (t.bot, sgOf S t.bot) ∈ S ∧ t.hl = true ∧ t.hr = true ∧ Xi (sgOf S t.bot).a ≤ Xi t.l ∧ Xi t.r ≤ Xi (sgOf S t.bot).b
  top : t.top ≠ 0 → (t.top, sgOf S t.top) ∈ S ∧ t.hl = true ∧ t.hr = true ∧ Xi (sgOf S t.top).a ≤ Xi t.l ∧ Xi t.r ≤ Xi (sgOf S t.top).b
  lr : t.hl = true → t.hr = true → Xi t.l < Xi t.r
  bt : t.bot ≠ 0 → t.top ≠ 0 → ∀ x, InX t x → (botL S t).at x < (topL S t).at x
  wl : t.hl = true → EndS S t.l ∧ (t.bot ≠ 0 → (botL S t).at (Xr t.l) ≤ Yr t.l) ∧ (t.top ≠ 0 → Yr t.l ≤ (topL S t).at (Xr t.l))
  wr : t.hr = true → EndS S t.r ∧ (t.bot ≠ 0 → (botL S t).at (Xr t.r) ≤ Yr t.r) ∧ (t.top ≠ 0 → Yr t.r ≤ (topL S t).at (Xr t.r))
  free : ∀ q ∈ S, ∀ x, (lnS q.2).spans x → ¬ InT S t x ((lnS q.2).at x)
  zl : t.hl = false → t.l = ⟨0, 0⟩
  zr : t.hr = false → t.r = ⟨0, 0⟩
variable {S : List (Int × Sg)} {t t' : Tz}
theorem Xr_le {a b : Pt} : Xr a ≤ Xr b ↔ Xi a ≤ Xi b := Rat.intCast_le_intCast
theorem Xr_eq {a b : Pt} : Xr a = Xr b ↔ Xi a = Xi b := Rat.intCast_inj
theorem SOk.endIn (O : SOk S) {e : Pt} (h : EndS S e) : InP e := by
  obtain ⟨q, hq, rfl | rfl⟩ := h
  · exact (O.rng q hq).1
  · exact (O.rng q hq).2.1
theorem SOk.endEq (O : SOk S) {e f : Pt} (h : EndS S e) (g : EndS S f) (hx : Xr e = Xr f) : e = f := Xi_inj (O.endIn h) (O.endIn g) (Xr_eq.1 hx)
theorem Val.botSp (V : Val S t) (h : t.bot ≠ 0) {x : Rat} (hx : InX t x) : (botL S t).spans x := by
  obtain ⟨_, h1, h2, h3, h4⟩ := V.bot h
  have a1 := hx.1 h1
  have a2 := hx.2 h2
  have b1 := Xr_le.2 h3
  have b2 := Xr_le.2 h4
  exact ⟨show Xr (sgOf S t.bot).a < x by grind, show x < Xr (sgOf S t.bot).b by grind⟩
theorem Val.topSp (V : Val S t) (h : t.top ≠ 0) {x : Rat} (hx : InX t x) : (topL S t).spans x := by
  obtain ⟨_, h1, h2, h3, h4⟩ := V.top h
  have a1 := hx.1 h1
  have a2 := hx.2 h2
  have b1 := Xr_le.2 h3
  have b2 := Xr_le.2 h4
  exact ⟨show Xr (sgOf S t.top).a < x by grind, show x < Xr (sgOf S t.top).b by grind⟩
theorem SOk.ln1 (O : SOk S) {q : Int × Sg} (hq : q ∈ S) : Xr q.2.a < Xr q.2.b ∧ (lnS q.2).at (Xr q.2.a) = Yr q.2.a ∧ (lnS q.2).at (Xr q.2.b) = Yr q.2.b := by
  have h := Xr_lt.2 (O.rng q hq).2.2
  exact ⟨h, (lnOf q.2.a q.2.b).at_1, (lnOf q.2.a q.2.b).at_2 h⟩
/-- No end stands within a trapeze. -/
theorem Val.noend (O : SOk S) (V : Val S t) {e : Pt} (he : EndS S e) (hx : InX t (Xr e)) (h1 : t.bot ≠ 0 → (botL S t).at (Xr e) ≤ Yr e) (h2 : t.top ≠ 0 → Yr e ≤ (topL S t).at (Xr e)) : False := by
  obtain ⟨q, hq, hqe⟩ := he
  have s1 : t.bot ≠ 0 → (botL S t).at (Xr e) < Yr e := fun h => by
    have := O.off _ (V.bot h).1 q hq e hqe (V.botSp h hx)
    have g := h1 h
    unfold botL at g ⊢
    simp only at this
    grind
  have s2 : t.top ≠ 0 → Yr e < (topL S t).at (Xr e) := fun h => by
    have := O.off _ (V.top h).1 q hq e hqe (V.topSp h hx)
    have g := h2 h
    unfold topL at g ⊢
    simp only at this
    grind
  obtain ⟨l1, l2, l3⟩ := O.ln1 hq
  have ye : (lnS q.2).at (Xr e) = Yr e := by rcases hqe with rfl | rfl; exact l2; exact l3
  have n1 : Nr (Xr e) fun x => InX t x := (Nr.imp fun h => Nr.gt (hx.1 h)).and (Nr.imp fun h => Nr.lt (hx.2 h))
  have n2 : Nr (Xr e) fun x => t.bot ≠ 0 → (botL S t).at x < (lnS q.2).at x := Nr.imp fun h => Nr.below (by rw [ye]; exact s1 h)
  have n3 : Nr (Xr e) fun x => t.top ≠ 0 → (lnS q.2).at x < (topL S t).at x := Nr.imp fun h => Nr.below (by rw [ye]; exact s2 h)
  rcases hqe with rfl | rfl
  · obtain ⟨x, g1, ⟨g2, g3, g4⟩, g5⟩ := ((n1.and (n2.and n3)).and (Nr.lt l1)).right
    exact V.free q hq x ⟨g1, g5⟩ ⟨g2, g3, g4⟩
  · obtain ⟨x, g1, ⟨g2, g3, g4⟩, g5⟩ := ((n1.and (n2.and n3)).and (Nr.gt l1)).left
    exact V.free q hq x ⟨g5, g1⟩ ⟨g2, g3, g4⟩
/-- Two trapezes with a point in common are one. -/
theorem val_bot (O : SOk S) (V : Val S t) (V' : Val S t') {x y : Rat} (h : InT S t x y) (h' : InT S t' x y) : t.bot ≠ 0 → t'.bot = t.bot := by
  intro hb
  have sp := V.botSp hb h.ix
  have hm := (V.bot hb).1
  have lo := h.lo hb
  have nf := V'.free _ hm x sp
  have hi' : t'.top ≠ 0 → (botL S t).at x < (topL S t').at x := fun g => by have := h'.hi g; grind
  by_cases hb' : t'.bot = 0
  · exact absurd ⟨h'.ix, fun g => absurd hb' g, hi'⟩ nf
  · have sp' := V'.botSp hb' h'.ix
    have hm' := (V'.bot hb').1
    have lo' := h'.lo hb'
    have nf' := V.free _ hm' x sp'
    have hi : t.top ≠ 0 → (botL S t').at x < (topL S t).at x := fun g => by have := h.hi g; grind
    have q1 : ¬ (botL S t').at x < (botL S t).at x := fun q => nf ⟨h'.ix, fun _ => q, hi'⟩
    have q2 : ¬ (botL S t).at x < (botL S t').at x := fun q => nf' ⟨h.ix, fun _ => q, hi⟩
    by_cases e : (t.bot, sgOf S t.bot) = (t'.bot, sgOf S t'.bot)
    · injection e with e; exact e.symm
    · have := O.sep _ hm _ hm' e x sp sp'
      unfold botL at q1 q2
      simp only at this
      grind
theorem val_top (O : SOk S) (V : Val S t) (V' : Val S t') {x y : Rat} (h : InT S t x y) (h' : InT S t' x y) : t.top ≠ 0 → t'.top = t.top := by
  intro hb
  have sp := V.topSp hb h.ix
  have hm := (V.top hb).1
  have lo := h.hi hb
  have nf := V'.free _ hm x sp
  have hi' : t'.bot ≠ 0 → (botL S t').at x < (topL S t).at x := fun g => by have := h'.lo g; grind
  by_cases hb' : t'.top = 0
  · exact absurd ⟨h'.ix, hi', fun g => absurd hb' g⟩ nf
  · have sp' := V'.topSp hb' h'.ix
    have hm' := (V'.top hb').1
    have lo' := h'.hi hb'
    have nf' := V.free _ hm' x sp'
    have hi : t.bot ≠ 0 → (botL S t).at x < (topL S t').at x := fun g => by have := h.lo g; grind
    have q1 : ¬ (topL S t).at x < (topL S t').at x := fun q => nf ⟨h'.ix, hi', fun _ => q⟩
    have q2 : ¬ (topL S t').at x < (topL S t).at x := fun q => nf' ⟨h.ix, hi, fun _ => q⟩
    by_cases e : (t.top, sgOf S t.top) = (t'.top, sgOf S t'.top)
    · injection e with e; exact e.symm
    · have := O.sep _ hm _ hm' e x sp sp'
      unfold topL at q1 q2
      simp only at this
      grind
theorem val_uniq (O : SOk S) (V : Val S t) (V' : Val S t') {x y : Rat} (h : InT S t x y) (h' : InT S t' x y) : t = t' := by
  have eb : t.bot = t'.bot := by
    by_cases g : t.bot = 0
    · by_cases g' : t'.bot = 0
      · rw [g, g']
      · exact val_bot O V' V h' h g'
    · exact (val_bot O V V' h h' g).symm
  have et : t.top = t'.top := by
    by_cases g : t.top = 0
    · by_cases g' : t'.top = 0
      · rw [g, g']
      · exact val_top O V' V h' h g'
    · exact (val_top O V V' h h' g).symm
  have L : ∀ {t t' : Tz}, Val S t → Val S t' → InT S t x y → InT S t' x y → t.bot = t'.bot → t.top = t'.top → t.hl = true → t'.hl = true ∧ Xr t.l ≤ Xr t'.l := by
    intro t t' V V' h h' eb et hl
    have wl := V.wl hl
    have no : ¬ (t'.hl = true → Xr t'.l < Xr t.l) := fun g => by
      refine V'.noend O wl.1 ⟨g, fun hr => ?_⟩ ?_ ?_
      · have := h.ix.1 hl
        have := h'.ix.2 hr
        grind
      · unfold botL; rw [← eb]; exact wl.2.1
      · unfold topL; rw [← et]; exact wl.2.2
    constructor
    · cases hh : t'.hl
      · exact absurd (fun g => absurd (hh.symm.trans g) (by simp)) no
      · rfl
    · grind
  have R : ∀ {t t' : Tz}, Val S t → Val S t' → InT S t x y → InT S t' x y → t.bot = t'.bot → t.top = t'.top → t.hr = true → t'.hr = true ∧ Xr t'.r ≤ Xr t.r := by
    intro t t' V V' h h' eb et hl
    have wl := V.wr hl
    have no : ¬ (t'.hr = true → Xr t.r < Xr t'.r) := fun g => by
      refine V'.noend O wl.1 ⟨fun hr => ?_, g⟩ ?_ ?_
      · have := h.ix.2 hl
        have := h'.ix.1 hr
        grind
      · unfold botL; rw [← eb]; exact wl.2.1
      · unfold topL; rw [← et]; exact wl.2.2
    constructor
    · cases hh : t'.hr
      · exact absurd (fun g => absurd (hh.symm.trans g) (by simp)) no
      · rfl
    · grind
  have ehl : t.hl = t'.hl := by
    cases h1 : t.hl <;> cases h2 : t'.hl
    · rfl
    · have := (L V' V h' h eb.symm et.symm h2).1; rw [h1] at this; cases this
    · have := (L V V' h h' eb et h1).1; rw [h2] at this; cases this
    · rfl
  have ehr : t.hr = t'.hr := by
    cases h1 : t.hr <;> cases h2 : t'.hr
    · rfl
    · have := (R V' V h' h eb.symm et.symm h2).1; rw [h1] at this; cases this
    · have := (R V V' h h' eb et h1).1; rw [h2] at this; cases this
    · rfl
  have el : t.l = t'.l := by
    cases h1 : t.hl
    · rw [V.zl h1, V'.zl (ehl ▸ h1)]
    · have h2 : t'.hl = true := ehl ▸ h1
      have a1 := (L V V' h h' eb et h1).2
      have a2 := (L V' V h' h eb.symm et.symm h2).2
      exact O.endEq (V.wl h1).1 (V'.wl h2).1 (by grind)
  have er : t.r = t'.r := by
    cases h1 : t.hr
    · rw [V.zr h1, V'.zr (ehr ▸ h1)]
    · have h2 : t'.hr = true := ehr ▸ h1
      have a1 := (R V V' h h' eb et h1).2
      have a2 := (R V' V h' h eb.symm et.symm h2).2
      exact O.endEq (V.wr h1).1 (V'.wr h2).1 (by grind)
  obtain ⟨_, _, _, _, _, _⟩ := t
  obtain ⟨_, _, _, _, _, _⟩ := t'
  simp only at eb et ehl ehr el er
  simp only [eb, et, ehl, ehr, el, er]
/-- A trapeze has a point. -/
theorem Val.someX (V : Val S t) (E : List Rat) : ∃ x, InX t x ∧ x ∉ E := by
  cases h1 : t.hl <;> cases h2 : t.hr
  · obtain ⟨x, _, _, g⟩ := between (show (0 : Rat) < 1 by decide) E
    exact ⟨x, ⟨fun h => absurd (h1.symm.trans h) (by simp), fun h => absurd (h2.symm.trans h) (by simp)⟩, g⟩
  · obtain ⟨x, _, g1, g⟩ := between (show Xr t.r - 1 < Xr t.r by grind) E
    exact ⟨x, ⟨fun h => absurd (h1.symm.trans h) (by simp), fun h => g1⟩, g⟩
  · obtain ⟨x, g1, _, g⟩ := between (show Xr t.l < Xr t.l + 1 by grind) E
    exact ⟨x, ⟨fun h => g1, fun h => absurd (h2.symm.trans h) (by simp)⟩, g⟩
  · obtain ⟨x, g1, g2, g⟩ := between (Xr_lt.2 (V.lr h1 h2)) E
    exact ⟨x, ⟨fun h => g1, fun h => g2⟩, g⟩
theorem Val.someY (V : Val S t) {x : Rat} (hx : InX t x) : ∃ y, InT S t x y := by
  by_cases h1 : t.bot = 0 <;> by_cases h2 : t.top = 0
  · exact ⟨0, hx, fun h => absurd h1 h, fun h => absurd h2 h⟩
  · exact ⟨(topL S t).at x - 1, hx, fun h => absurd h1 h, fun h => by grind⟩
  · exact ⟨(botL S t).at x + 1, hx, fun h => by grind, fun h => absurd h2 h⟩
  · have := V.bt h1 h2 x hx
    exact ⟨((botL S t).at x + (topL S t).at x) / 2, hx, fun h => by grind, fun h => by grind⟩
end Go.Proofs.Ytlhmjhildlnokaa

/-
  Which line is above; which trapezes a line goes through.
-/
namespace Go.Proofs.Ytlhmjhildlnokaa
set_option linter.unusedVariables false
set_option linter.unusedSimpArgs false
open Go.RowKit Go.Sort Go.Shelf
variable {S : List (Int × Sg)} {t t' : Tz}
/-! ### Which line is above; which trapezes a line goes through -/
theorem inB_t {a : Pt} (h : InP a) : inB a = true := decide_eq_true h
theorem less_X {a b : Pt} (ha : InP a) (hb : InP b) : lessB a b = true ↔ Xr a < Xr b := by
  unfold lessB; rw [decide_eq_true_eq]; exact less_Xr ha hb
theorem turn_sign {a b c : Pt} (ia : InP a) (ib : InP b) (ic : InP c) (hab : Xr a < Xr b) :
    (0 < turnB a b c ↔ (lnOf a b).at (Xr c) < Yr c) ∧ (turnB a b c < 0 ↔ Yr c < (lnOf a b).at (Xr c)) ∧ (turnB a b c = 0 ↔ Yr c = (lnOf a b).at (Xr c)) := by
  have e : turnB a b c = sgnZ (crossZ a b c) := by unfold turnB; rw [inB_t ia, inB_t ib, inB_t ic]; rfl
  rw [e, at_pos hab, at_neg hab, at_zero hab]
  rcases sg_cases (crossZ a b c) with ⟨h, k⟩ | ⟨h, k⟩ | ⟨h, k⟩ <;> rw [k] <;> omega
theorem orZ_first {a : Int} {l : List Int} (h : a ≠ 0) : orZ (a :: l) = a := by unfold orZ; rw [if_neg h]
theorem orZ_next {l : List Int} : orZ (0 :: l) = orZ l := by rw [orZ, if_pos rfl]
theorem side_sign (O : SOk S) {q r : Int × Sg} (hq : q ∈ S) (hr : r ∈ S) (hne : q ≠ r) {x : Rat} (h1 : (lnS q.2).spans x) (h2 : (lnS r.2).spans x) :
    (0 < sideZ q.2 r.2 ↔ (lnS q.2).at x < (lnS r.2).at x) ∧ (sideZ q.2 r.2 < 0 ↔ (lnS r.2).at x < (lnS q.2).at x) := by
  have sep := O.sep q hq r hr hne
  obtain ⟨qa, qb, _⟩ := O.rng q hq
  obtain ⟨ra, rb, _⟩ := O.rng r hr
  obtain ⟨ql, q1, q2⟩ := O.ln1 hq
  obtain ⟨rl, r1, r2⟩ := O.ln1 hr
  have off1 := O.off q hq r hr r.2.a (.inl rfl)
  have off2 := O.off r hr q hq q.2.a (.inl rfl)
  have hx := sep x h1 h2
  have a1 : Xr q.2.a < x := h1.1
  have a2 : x < Xr q.2.b := h1.2
  have b1 : Xr r.2.a < x := h2.1
  have b2 : x < Xr r.2.b := h2.2
  unfold sideZ
  by_cases hl : Xr q.2.a < Xr r.2.a
  · rw [if_pos ((less_X qa ra).2 hl)]
    have sp : (lnS q.2).spans (Xr r.2.a) := ⟨hl, show Xr r.2.a < Xr q.2.b by grind⟩
    obtain ⟨g1, g2, g3⟩ := turn_sign (c := r.2.a) qa qb ra ql
    have ne := off1 sp
    have hne0 : turnB q.2.a q.2.b r.2.a ≠ 0 := fun e => by
      have := g3.1 e
      unfold lnS at ne; grind
    rw [orZ_first hne0, g1, g2]
    have k := sep.ends (x := x) (y := Xr r.2.a) h1 h2 ⟨Rat.le_of_lt sp.1, Rat.le_of_lt sp.2⟩ ⟨Rat.le_refl, show Xr r.2.a ≤ Xr r.2.b by grind⟩ (by rw [r1]; exact ne)
    rw [r1] at k
    unfold lnS at k hx ne ⊢
    constructor
    · exact k.symm
    · have g : (lnOf r.2.a r.2.b).at x < (lnOf q.2.a q.2.b).at x ↔ ¬ (lnOf q.2.a q.2.b).at x < (lnOf r.2.a r.2.b).at x := by grind
      rw [g, k]
      grind
  · have hl' : ¬ lessB q.2.a r.2.a = true := fun h => hl ((less_X qa ra).1 h)
    rw [if_neg hl']
    obtain ⟨g1, g2, g3⟩ := turn_sign (c := q.2.a) ra rb qa rl
    by_cases he : Xr q.2.a = Xr r.2.a
    · have e := Xi_inj qa ra (Xr_eq.1 he)
      have z : turnB r.2.a r.2.b q.2.a = 0 := g3.2 (by
        have : Yr q.2.a = (lnOf r.2.a r.2.b).at (Xr r.2.a) := by rw [e]; exact r1.symm
        rw [he]; exact this)
      rw [z, Int.neg_zero, orZ_next]
      obtain ⟨k1, k2, k3⟩ := turn_sign (c := q.2.b) ra rb qb rl
      have e0 : (lnS q.2).at (Xr q.2.a) = (lnS r.2).at (Xr q.2.a) := by rw [q1, he, r1, e]
      have f1 := Ln.fan_r (x := x) (y := Xr q.2.b) e0 a1 (by grind)
      have f2 := Ln.fan_r (x := x) (y := Xr q.2.b) e0.symm a1 (by grind)
      rw [q2] at f1 f2
      unfold lnS at f1 f2 hx ⊢
      have hne0 : - turnB r.2.a r.2.b q.2.b ≠ 0 := fun e => by
        have := k3.1 (by omega)
        grind
      rw [orZ_first hne0]
      have n1 : 0 < - turnB r.2.a r.2.b q.2.b ↔ turnB r.2.a r.2.b q.2.b < 0 := by omega
      have n2 : - turnB r.2.a r.2.b q.2.b < 0 ↔ 0 < turnB r.2.a r.2.b q.2.b := by omega
      rw [n1, n2, k1, k2, f1, f2]
      exact ⟨Iff.rfl, Iff.rfl⟩
    · have hlt : Xr r.2.a < Xr q.2.a := by grind
      have sp : (lnS r.2).spans (Xr q.2.a) := ⟨hlt, show Xr q.2.a < Xr r.2.b by grind⟩
      have ne := off2 sp
      have hne0 : - turnB r.2.a r.2.b q.2.a ≠ 0 := fun e => by
        have := g3.1 (by omega)
        unfold lnS at ne; grind
      rw [orZ_first hne0]
      have k := sep.ends (x := x) (y := Xr q.2.a) h1 h2 ⟨Rat.le_refl, show Xr q.2.a ≤ Xr q.2.b by grind⟩ ⟨Rat.le_of_lt sp.1, Rat.le_of_lt sp.2⟩ (by rw [q1]; exact ne.symm)
      rw [q1] at k
      have n1 : 0 < - turnB r.2.a r.2.b q.2.a ↔ turnB r.2.a r.2.b q.2.a < 0 := by omega
      have n2 : - turnB r.2.a r.2.b q.2.a < 0 ↔ 0 < turnB r.2.a r.2.b q.2.a := by omega
      rw [n1, n2, g1, g2]
      unfold lnS at k hx ne ⊢
      constructor
      · exact k.symm
      · have g : (lnOf r.2.a r.2.b).at x < (lnOf q.2.a q.2.b).at x ↔ ¬ (lnOf q.2.a q.2.b).at x < (lnOf r.2.a r.2.b).at x := by grind
        rw [g, k]
        grind
/-! ### A line more -/
/-- What the lines said of each other, with one more. -/
structure Nw (S : List (Int × Sg)) (id : Int) (s : Sg) : Prop where
  ok : SOk ((id, s) :: S)
theorem SOk.tail {S : List (Int × Sg)} {id : Int} {s : Sg} (O : SOk ((id, s) :: S)) : SOk S where
  ids q hq := O.ids q (by simp [hq])
  keys := (List.nodup_cons.1 O.keys).2
  rng q hq := O.rng q (by simp [hq])
  sep q hq r hr := O.sep q (by simp [hq]) r (by simp [hr])
  off q hq r hr := O.off q (by simp [hq]) r (by simp [hr])
variable {id : Int} {s : Sg}
theorem SOk.fresh (O : SOk ((id, s) :: S)) {q : Int × Sg} (hq : q ∈ S) : q.1 ≠ id := fun e => (List.nodup_cons.1 O.keys).1 (List.mem_map.2 ⟨q, hq, e⟩)
theorem sgOf_other (h : t.bot ≠ id) : True := trivial
theorem getA_cons {i : Int} (h : i ≠ id) : getA ((id, s) :: S) i = getA S i := by
  unfold getA
  rw [firstI, if_neg h]
  have : ∀ (l : List (Int × Sg)) (k : Nat), (firstI i l (k + 1)).map (·.2) = (firstI i l k).map (·.2) := by
    intro l
    induction l with
    | nil => intro k; rfl
    | cons a l ih =>
      intro k
      obtain ⟨a1, a2⟩ := a
      unfold firstI
      split
      · rfl
      · exact ih (k + 1)
  exact this S 0
theorem getA_head : getA ((id, s) :: S) id = some s := by unfold getA; rw [firstI, if_pos rfl]; rfl
theorem sgOf_cons {i : Int} (h : i ≠ id) : sgOf ((id, s) :: S) i = sgOf S i := by unfold sgOf; rw [getA_cons h]
theorem sgOf_head : sgOf ((id, s) :: S) id = s := by unfold sgOf; rw [getA_head]; rfl
theorem sgOf_mem (O : SOk S) {q : Int × Sg} (hq : q ∈ S) : sgOf S q.1 = q.2 := by
  unfold sgOf; rw [(getA_some O.keys).2 hq]; rfl
/-- Lines of the old trapezes aren't the new one. -/
theorem Val.notId (O : SOk ((id, s) :: S)) (V : Val S t) : t.bot ≠ id ∧ t.top ≠ id := by
  have h0 := O.ids (id, s) (by simp)
  simp only at h0
  constructor
  · intro e
    have := V.bot (by rw [e]; exact h0)
    exact O.fresh this.1 e
  · intro e
    have := V.top (by rw [e]; exact h0)
    exact O.fresh this.1 e
def Pass (S : List (Int × Sg)) (s : Sg) (t : Tz) : Prop := ∃ x, (lnS s).spans x ∧ InT S t x ((lnS s).at x)
/-- A line that goes through a trapeze goes through all of it. -/
theorem Pass.all (O : SOk ((id, s) :: S)) (V : Val S t) (h : Pass S s t) {x : Rat} (hx : (lnS s).spans x) (ix : InX t x) : InT S t x ((lnS s).at x) := by
  obtain ⟨x0, h1, h2⟩ := h
  refine ⟨ix, fun hb => ?_, fun hb => ?_⟩
  · have hm := (V.bot hb).1
    have sep := O.sep (t.bot, sgOf S t.bot) (by simp [hm]) (id, s) (by simp) (fun e => O.fresh hm (by rw [e]))
    exact sep.keeps (V.botSp hb h2.ix) h1 (V.botSp hb ix) hx (h2.lo hb)
  · have hm := (V.top hb).1
    have sep := O.sep (id, s) (by simp) (t.top, sgOf S t.top) (by simp [hm]) (fun e => O.fresh hm (by rw [← e]))
    exact sep.keeps h1 (V.topSp hb h2.ix) hx (V.topSp hb ix) (h2.hi hb)
/-- The places that a trapeze and a line have in common. -/
theorem common (O : SOk ((id, s) :: S)) (V : Val S t) (h1 : t.hl = true → Xr t.l < Xr s.b) (h2 : t.hr = true → Xr s.a < Xr t.r) (E : List Rat) : ∃ x, (lnS s).spans x ∧ InX t x ∧ x ∉ E := by
  have hs := (O.ln1 (q := (id, s)) (by simp)).1
  simp only at hs
  -- from the greater left end to the lesser right one
  obtain ⟨lo, l1, l2, l3⟩ : ∃ lo, Xr s.a ≤ lo ∧ (t.hl = true → Xr t.l ≤ lo) ∧ (lo = Xr s.a ∨ t.hl = true ∧ lo = Xr t.l) := by
    cases hl : t.hl
    · exact ⟨Xr s.a, Rat.le_refl, fun h => (by cases h), .inl rfl⟩
    · by_cases g : Xr t.l ≤ Xr s.a
      · exact ⟨Xr s.a, Rat.le_refl, fun _ => g, .inl rfl⟩
      · exact ⟨Xr t.l, by grind, fun _ => Rat.le_refl, .inr ⟨rfl, rfl⟩⟩
  obtain ⟨hi, r1, r2, r3⟩ : ∃ hi, hi ≤ Xr s.b ∧ (t.hr = true → hi ≤ Xr t.r) ∧ (hi = Xr s.b ∨ t.hr = true ∧ hi = Xr t.r) := by
    cases hr : t.hr
    · exact ⟨Xr s.b, Rat.le_refl, fun h => (by cases h), .inl rfl⟩
    · by_cases g : Xr s.b ≤ Xr t.r
      · exact ⟨Xr s.b, Rat.le_refl, fun _ => g, .inl rfl⟩
      · exact ⟨Xr t.r, by grind, fun _ => Rat.le_refl, .inr ⟨rfl, rfl⟩⟩
  have hlt : lo < hi := by
    rcases l3 with rfl | ⟨hl, rfl⟩ <;> rcases r3 with rfl | ⟨hr, rfl⟩
    · exact hs
    · exact h2 hr
    · exact h1 hl
    · exact Xr_lt.2 (V.lr hl hr)
  obtain ⟨x, a1, a2, a3⟩ := between hlt E
  exact ⟨x, ⟨show Xr s.a < x by grind, show x < Xr s.b by grind⟩, ⟨fun h => by have := l2 h; grind, fun h => by have := r2 h; grind⟩, a3⟩
theorem hit_iff (O : SOk ((id, s) :: S)) (V : Val S t) {n : Int} {g : Bool} : hitB S s ⟨t, n, g⟩ = true ↔ g = false ∧ Pass S s t := by
  obtain ⟨sa, sb, _⟩ := O.rng (id, s) (by simp)
  simp only at sa sb
  have key : ∀ x, (lnS s).spans x → InX t x → ((t.bot ≠ 0 → ¬ sideZ (sgOf S t.bot) s < 0) ∧ (t.top ≠ 0 → ¬ 0 < sideZ (sgOf S t.top) s) ↔ InT S t x ((lnS s).at x)) := by
    intro x hx ix
    have eb : t.bot ≠ 0 → (¬ sideZ (sgOf S t.bot) s < 0 ↔ (botL S t).at x < (lnS s).at x) := fun hb => by
      have hm := (V.bot hb).1
      have hne : (t.bot, sgOf S t.bot) ≠ (id, s) := fun e => O.fresh hm (by rw [e])
      have := side_sign O (q := (t.bot, sgOf S t.bot)) (r := (id, s)) (by simp [hm]) (by simp) hne (V.botSp hb ix) hx
      have ne := O.sep (t.bot, sgOf S t.bot) (by simp [hm]) (id, s) (by simp) hne x (V.botSp hb ix) hx
      rw [this.2]
      unfold botL
      simp only at ne
      grind
    have et : t.top ≠ 0 → (¬ 0 < sideZ (sgOf S t.top) s ↔ (lnS s).at x < (topL S t).at x) := fun hb => by
      have hm := (V.top hb).1
      have hne : (t.top, sgOf S t.top) ≠ (id, s) := fun e => O.fresh hm (by rw [e])
      have := side_sign O (q := (t.top, sgOf S t.top)) (r := (id, s)) (by simp [hm]) (by simp) hne (V.topSp hb ix) hx
      have ne := O.sep (t.top, sgOf S t.top) (by simp [hm]) (id, s) (by simp) hne x (V.topSp hb ix) hx
      rw [this.1]
      unfold topL
      simp only at ne
      grind
    constructor
    · rintro ⟨g1, g2⟩
      exact ⟨ix, fun hb => (eb hb).1 (g1 hb), fun hb => (et hb).1 (g2 hb)⟩
    · rintro ⟨_, g1, g2⟩
      exact ⟨fun hb => (eb hb).2 (g1 hb), fun hb => (et hb).2 (g2 hb)⟩
  have wlb : t.hl = true → (lessB t.l s.b = true ↔ Xr t.l < Xr s.b) := fun h => less_X (O.tail.endIn (V.wl h).1) sb
  have wrb : t.hr = true → (lessB s.a t.r = true ↔ Xr s.a < Xr t.r) := fun h => less_X sa (O.tail.endIn (V.wr h).1)
  have unf : hitB S s ⟨t, n, g⟩ = true ↔ g = false ∧ (t.hl = true → lessB t.l s.b = true) ∧ (t.hr = true → lessB s.a t.r = true) ∧ (t.bot ≠ 0 → ¬ sideZ (sgOf S t.bot) s < 0) ∧ (t.top ≠ 0 → ¬ 0 < sideZ (sgOf S t.top) s) := by
    unfold hitB
    simp only [Bool.and_eq_true, Bool.not_eq_true', Bool.and_eq_false_iff, Bool.not_eq_false', bne_eq_false_iff_eq, decide_eq_false_iff_not]
    constructor
    · rintro ⟨h1, h2, h3, h4, h5⟩
      refine ⟨h1, fun h => ?_, fun h => ?_, fun h => ?_, fun h => ?_⟩
      · rcases h2 with h2 | h2; · rw [h] at h2; cases h2
        · exact h2
      · rcases h3 with h2 | h2; · rw [h] at h2; cases h2
        · exact h2
      · rcases h4 with h2 | h2; · exact absurd h2 h
        · exact h2
      · rcases h5 with h2 | h2; · exact absurd h2 h
        · exact h2
    · rintro ⟨h1, h2, h3, h4, h5⟩
      refine ⟨h1, ?_, ?_, ?_, ?_⟩
      · cases hh : t.hl; · exact .inl rfl
        · exact .inr (h2 hh)
      · cases hh : t.hr; · exact .inl rfl
        · exact .inr (h3 hh)
      · by_cases hh : t.bot = 0; · exact .inl hh
        · exact .inr (h4 hh)
      · by_cases hh : t.top = 0; · exact .inl hh
        · exact .inr (h5 hh)
  rw [unf]
  constructor
  · rintro ⟨hg, h1, h2, h3⟩
    refine ⟨hg, ?_⟩
    obtain ⟨x, hx, ix, _⟩ := common O V (fun h => (wlb h).1 (h1 h)) (fun h => (wrb h).1 (h2 h)) []
    exact ⟨x, hx, (key x hx ix).1 h3⟩
  · rintro ⟨hg, x, hx, hI⟩
    have x1 : Xr s.a < x := hx.1
    have x2 : x < Xr s.b := hx.2
    exact ⟨hg, fun h => (wlb h).2 (by have := hI.ix.1 h; grind), fun h => (wrb h).2 (by have := hI.ix.2 h; grind), (key x hx hI.ix).2 hI⟩
end Go.Proofs.Ytlhmjhildlnokaa

/-
  The graph of questions; the trapezes that a line crosses stand in a row.
-/
namespace Go.Proofs.Ytlhmjhildlnokaa
set_option linter.unusedVariables false
set_option linter.unusedSimpArgs false
open Go.RowKit Go.Sort Go.Shelf
/-! ### The graph of questions, and what an index is -/
/-- From a node to an answer, in so many steps. -/
inductive Desc (N : List Nd) (S : List (Int × Sg)) (x y : Rat) : Nat → Nat → Ans → Prop
  | leaf {n : Nat} {q : Nd} (h : N[n]? = some q) (hk : q.k = 0) : Desc N S x y 0 n (.leaf n)
  | ptL {n m k : Nat} {q : Nd} {r : Ans} (h : N[n]? = some q) (hk : q.k = 1) (hp : InP q.p) (hx : x < Xr q.p) (hm : q.a = (m : Int)) (hd : Desc N S x y k m r) : Desc N S x y (k + 1) n r
  | ptR {n m k : Nat} {q : Nd} {r : Ans} (h : N[n]? = some q) (hk : q.k = 1) (hp : InP q.p) (hx : Xr q.p < x) (hm : q.b = (m : Int)) (hd : Desc N S x y k m r) : Desc N S x y (k + 1) n r
  | lnU {n m k : Nat} {q : Nd} {s : Sg} {r : Ans} (h : N[n]? = some q) (hk : q.k = 2) (hs : (q.id, s) ∈ S) (hy : (lnS s).at x < y) (hm : q.a = (m : Int)) (hd : Desc N S x y k m r) : Desc N S x y (k + 1) n r
  | lnD {n m k : Nat} {q : Nd} {s : Sg} {r : Ans} (h : N[n]? = some q) (hk : q.k = 2) (hs : (q.id, s) ∈ S) (hy : y < (lnS s).at x) (hm : q.b = (m : Int)) (hd : Desc N S x y k m r) : Desc N S x y (k + 1) n r
  | on {n : Nat} {q : Nd} {s : Sg} (h : N[n]? = some q) (hk : q.k = 2) (hs : (q.id, s) ∈ S) (hy : y = (lnS s).at x) : Desc N S x y 0 n (.on q.id)
structure TI (S : List (Int × Sg)) (N : List Nd) (P : List Pc) : Prop where
  ok : SOk S
  wf : WfP N P
  val : ∀ (i : Nat) (p : Pc), P[i]? = some p → p.g = false → Val S p.t
  leaf : ∀ (i : Nat) (p : Pc), P[i]? = some p → p.g = false → N[p.n.toNat]? = some (lfN i)
  dist : ∀ (i j : Nat) (p q : Pc), P[i]? = some p → P[j]? = some q → p.g = false → q.g = false → p.t = q.t → i = j
  down : ∀ x y : Rat, (∀ e, EndS S e → x ≠ Xr e) → (∃ (k : Nat) (id : Int) (sg : Sg), (id, sg) ∈ S ∧ (lnS sg).spans x ∧ y = (lnS sg).at x ∧ Desc N S x y k 0 (.on id)) ∨ (∃ (k i : Nat) (p : Pc), P[i]? = some p ∧ p.g = false ∧ InT S p.t x y ∧ Desc N S x y k 0 (.leaf p.n.toNat))
theorem TI.start : TI [] [nd0] [pc0] := by
  have one : ∀ {i : Nat} {p : Pc}, [pc0][i]? = some p → i = 0 ∧ p = pc0 := fun {i p} h => by
    cases i
    · exact ⟨rfl, by simpa using h.symm⟩
    · simp at h
  refine ⟨⟨by simp, by simp, by simp, by simp, by simp⟩, ?_, fun i p h _ => ?_, fun i p h _ => ?_, fun i j p q h g _ _ _ => ?_, fun x y _ => ?_⟩
  · intro p hp
    obtain rfl : p = pc0 := by simpa using hp
    exact ⟨by decide, by decide⟩
  · obtain ⟨_, rfl⟩ := one h
    exact ⟨fun h => absurd rfl h, fun h => absurd rfl h, (by intro h; cases h), fun h => absurd rfl h, (by intro h; cases h), (by intro h; cases h), (by simp), fun _ => rfl, fun _ => rfl⟩
  · obtain ⟨rfl, rfl⟩ := one h
    rfl
  · rw [(one h).1, (one g).1]
  · right
    exact ⟨0, 0, pc0, rfl, rfl, ⟨⟨(by intro h; cases h), (by intro h; cases h)⟩, fun h => absurd rfl h, fun h => absurd rfl h⟩, .leaf (q := nd0) rfl rfl⟩

/-! ### The trapezes that a line crosses stand in a row -/
/-- Intervals in order that share nothing and leave nothing out. -/
theorem chainR {L R : Nat → Rat} {m : Nat} {a b : Rat} {E : List Rat} (hab : a < b) (hne : ∀ k, k < m → L k < R k ∧ a ≤ L k ∧ R k ≤ b) (hs : ∀ k k', k < k' → k' < m → L k ≤ L k')
    (hd : ∀ k k' x, k < m → k' < m → L k < x → x < R k → L k' < x → x < R k' → k = k') (hc : ∀ x, a < x → x < b → x ∉ E → ∃ k, k < m ∧ L k < x ∧ x < R k) :
    0 < m ∧ (0 < m → L 0 = a) ∧ (∀ k, k + 1 < m → R k = L (k + 1)) ∧ (∀ k k', k < k' → k' < m → R k ≤ L k') ∧ (0 < m → R (m - 1) = b) := by
  have pair : ∀ k k', k < k' → k' < m → R k ≤ L k' := by
    intro k k' h1 h2
    by_cases g : R k ≤ L k'
    · exact g
    exfalso
    have a1 := hne k (by omega)
    have a2 := hne k' h2
    have a3 := hs k k' h1 h2
    by_cases g2 : R k ≤ R k'
    · have := hd k k' ((L k' + R k) / 2) (by omega) h2 (by grind) (by grind) (by grind) (by grind)
      omega
    · have := hd k k' ((L k' + R k') / 2) (by omega) h2 (by grind) (by grind) (by grind) (by grind)
      omega
  have m0 : 0 < m := by
    obtain ⟨x, h1, h2, h3⟩ := between hab E
    obtain ⟨k, hk, _⟩ := hc x h1 h2 h3
    omega
  refine ⟨m0, fun _ => ?_, fun k hk => ?_, pair, fun _ => ?_⟩
  · by_cases g : L 0 = a
    · exact g
    exfalso
    have h0 := hne 0 m0
    obtain ⟨x, h1, h2, h3⟩ := between (show a < L 0 by grind) E
    obtain ⟨k, hk, g1, g2⟩ := hc x h1 (by grind) h3
    by_cases k0 : k = 0
    · subst k0; grind
    · have := hs 0 k (by omega) hk
      grind
  · have p := pair k (k + 1) (by omega) hk
    by_cases g : R k = L (k + 1)
    · exact g
    exfalso
    have h0 := hne k (by omega)
    have h1 := hne (k + 1) hk
    obtain ⟨x, x1, x2, x3⟩ := between (show R k < L (k + 1) by grind) E
    obtain ⟨k2, hk2, g1, g2⟩ := hc x (by grind) (by grind) x3
    by_cases c1 : k2 ≤ k
    · by_cases c2 : k2 = k
      · subst c2; grind
      · have := pair k2 k (by omega) (by omega)
        grind
    · by_cases c2 : k2 = k + 1
      · subst c2; grind
      · have := hs (k + 1) k2 (by omega) hk2
        grind
  · by_cases g : R (m - 1) = b
    · exact g
    exfalso
    have h0 := hne (m - 1) (by omega)
    obtain ⟨x, x1, x2, x3⟩ := between (show R (m - 1) < b by grind) E
    obtain ⟨k2, hk2, g1, g2⟩ := hc x (by grind) x2 x3
    by_cases c2 : k2 = m - 1
    · subst c2; grind
    · have := pair k2 (m - 1) (by omega) (by omega)
      grind
def endsX (S : List (Int × Sg)) : List Rat := S.flatMap fun q => [Xr q.2.a, Xr q.2.b]
theorem endsX_iff {S : List (Int × Sg)} {x : Rat} : x ∉ endsX S ↔ ∀ e, EndS S e → x ≠ Xr e := by
  unfold endsX EndS
  simp only [List.mem_flatMap, List.mem_cons, List.not_mem_nil, or_false, not_exists, not_and]
  constructor
  · rintro h e ⟨q, hq, rfl | rfl⟩ rfl
    · exact h q hq (.inl rfl)
    · exact h q hq (.inr rfl)
  · rintro h q hq (rfl | rfl)
    · exact h _ ⟨q, hq, .inl rfl⟩ rfl
    · exact h _ ⟨q, hq, .inr rfl⟩ rfl
section
variable {S : List (Int × Sg)} {N : List Nd} {P : List Pc} {id : Int} {s : Sg} {all : List Nat}
abbrev tK (P : List Pc) (all : List Nat) (k : Nat) : Tz := (pk P all k).t
/-- What is known ahead of the rounds. -/
structure Cx (S : List (Int × Sg)) (N : List Nd) (P : List Pc) (id : Int) (s : Sg) (all : List Nat) : Prop where
  ok : SOk ((id, s) :: S)
  ti : TI S N P
  cr : CrossP P S s all
theorem Cx.mem (C : Cx S N P id s all) {i : Nat} {p : Pc} (hp : P[i]? = some p) : i ∈ all ↔ p.g = false ∧ Pass S s p.t := by
  rw [C.cr.1.mem_iff]
  unfold crossL
  rw [List.mem_filter, List.mem_range]
  unfold hitAt
  rw [hp]
  simp only
  obtain ⟨t, n, g⟩ := p
  constructor
  · rintro ⟨_, h⟩
    have hg : g = false := by
      unfold hitB at h
      cases g
      · rfl
      · simp at h
    exact (hit_iff C.ok (C.ti.val i _ hp hg)).1 h
  · intro h
    exact ⟨(List.getElem?_eq_some_iff.1 hp).1, (hit_iff C.ok (C.ti.val i _ hp h.1)).2 h⟩
theorem Cx.nodup (C : Cx S N P id s all) : all.Nodup := (cross_few C.cr).1
theorem Cx.at (C : Cx S N P id s all) {k : Nat} (hk : k < all.length) : ∃ n, all[k]? = some n ∧ P[n]? = some (pk P all k) ∧ (pk P all k).g = false ∧ Pass S s (tK P all k) ∧ Val S (tK P all k) := by
  obtain ⟨n, hn⟩ : ∃ n, all[k]? = some n := ⟨_, List.getElem?_eq_getElem hk⟩
  obtain ⟨p, hp, hg⟩ := (cross_few C.cr).2.1 n (List.mem_of_getElem? hn)
  have e : pk P all k = p := by unfold pk; rw [hn]; show (P[n]?).getD pc0 = p; rw [hp]; rfl
  have := (C.mem hp).1 (List.mem_of_getElem? hn)
  refine ⟨n, hn, by rw [e]; exact hp, by rw [e]; exact hg, ?_, ?_⟩
  · show Pass S s (pk P all k).t
    rw [e]; exact this.2
  · show Val S (pk P all k).t
    rw [e]; exact C.ti.val n p hp hg
theorem Cx.val (C : Cx S N P id s all) {k : Nat} (hk : k < all.length) : Val S (tK P all k) := (C.at hk).choose_spec.2.2.2.2
theorem Cx.pass (C : Cx S N P id s all) {k : Nat} (hk : k < all.length) : Pass S s (tK P all k) := (C.at hk).choose_spec.2.2.2.1
theorem Cx.within (C : Cx S N P id s all) {k : Nat} (hk : k < all.length) {x : Rat} (hx : (lnS s).spans x) (ix : InX (tK P all k) x) : InT S (tK P all k) x ((lnS s).at x) := (C.pass hk).all C.ok (C.val hk) hx ix
theorem Cx.new (C : Cx S N P id s all) : InP s.a ∧ InP s.b ∧ Xr s.a < Xr s.b ∧ (lnS s).at (Xr s.a) = Yr s.a ∧ (lnS s).at (Xr s.b) = Yr s.b := by
  obtain ⟨h1, h2, _⟩ := C.ok.rng (id, s) (by simp)
  obtain ⟨h3, h4, h5⟩ := C.ok.ln1 (q := (id, s)) (by simp)
  exact ⟨h1, h2, h3, h4, h5⟩
def lowR (s : Sg) (t : Tz) : Rat := if t.hl = true ∧ Xr s.a < Xr t.l then Xr t.l else Xr s.a
def higR (s : Sg) (t : Tz) : Rat := if t.hr = true ∧ Xr t.r < Xr s.b then Xr t.r else Xr s.b
theorem low_iff {t : Tz} {x : Rat} : lowR s t < x ↔ Xr s.a < x ∧ (t.hl = true → Xr t.l < x) := by
  unfold lowR
  split
  · rename_i h
    constructor
    · intro g
      have := h.2
      exact ⟨by grind, fun _ => g⟩
    · exact fun g => g.2 h.1
  · rename_i h
    constructor
    · refine fun g => ⟨g, fun hl => ?_⟩
      have : ¬ Xr s.a < Xr t.l := fun q => h ⟨hl, q⟩
      grind
    · exact fun g => g.1
theorem hig_iff {t : Tz} {x : Rat} : x < higR s t ↔ x < Xr s.b ∧ (t.hr = true → x < Xr t.r) := by
  unfold higR
  split
  · rename_i h
    constructor
    · intro g
      have := h.2
      exact ⟨by grind, fun _ => g⟩
    · exact fun g => g.2 h.1
  · rename_i h
    constructor
    · refine fun g => ⟨g, fun hl => ?_⟩
      have : ¬ Xr t.r < Xr s.b := fun q => h ⟨hl, q⟩
      grind
    · exact fun g => g.1
theorem in_iff {t : Tz} {x : Rat} : (lowR s t < x ∧ x < higR s t) ↔ (lnS s).spans x ∧ InX t x := by
  rw [low_iff, hig_iff]
  constructor
  · rintro ⟨⟨h1, h2⟩, h3, h4⟩; exact ⟨⟨h1, h3⟩, h2, h4⟩
  · rintro ⟨⟨h1, h3⟩, h2, h4⟩; exact ⟨⟨h1, h2⟩, h3, h4⟩
theorem Cx.one (C : Cx S N P id s all) {k k' : Nat} (hk : k < all.length) (hk' : k' < all.length) {x y : Rat} (h : InT S (tK P all k) x y) (h' : InT S (tK P all k') x y) : k = k' := by
  obtain ⟨n, a1, a2, a3, _, a5⟩ := C.at hk
  obtain ⟨n', b1, b2, b3, _, b5⟩ := C.at hk'
  have e := val_uniq C.ti.ok a5 b5 h h'
  have := C.ti.dist n n' _ _ a2 b2 a3 b3 e
  exact (List.getElem?_inj hk C.nodup).1 (by rw [a1, b1, this])
theorem Cx.chain (C : Cx S N P id s all) : 0 < all.length ∧ (0 < all.length → lowR s (tK P all 0) = Xr s.a) ∧ (∀ k, k + 1 < all.length → higR s (tK P all k) = lowR s (tK P all (k + 1))) ∧
    (∀ k k', k < k' → k' < all.length → higR s (tK P all k) ≤ lowR s (tK P all k')) ∧ (0 < all.length → higR s (tK P all (all.length - 1)) = Xr s.b) := by
  obtain ⟨sa, sb, hab, _, _⟩ := C.new
  refine chainR (L := fun k => lowR s (tK P all k)) (R := fun k => higR s (tK P all k)) (m := all.length) (E := endsX S) hab (fun k hk => ?_) (fun k k' h1 h2 => ?_) (fun k k' x h1 h2 h3 h4 h5 h6 => ?_) (fun x h1 h2 h3 => ?_)
  · obtain ⟨x, h1, h2⟩ := C.pass hk
    have := in_iff.2 ⟨h1, h2.ix⟩
    refine ⟨by grind, ?_, ?_⟩
    · unfold lowR; split
      · rename_i h; exact Rat.le_of_lt h.2
      · exact Rat.le_refl
    · unfold higR; split
      · rename_i h; exact Rat.le_of_lt h.2
      · exact Rat.le_refl
  · -- sorted by what is at their left
    obtain ⟨n, a1, a2, _⟩ := C.at (show k < all.length by omega)
    obtain ⟨n', b1, b2, _⟩ := C.at h2
    have hs := C.cr.2
    unfold SortC at hs
    rw [List.pairwise_iff_getElem] at hs
    have hh := hs k k' (by omega) h2 h1 (pk P all k) (pk P all k') (by rw [(List.getElem?_eq_some_iff.1 a1).2]; exact a2) (by rw [(List.getElem?_eq_some_iff.1 b1).2]; exact b2)
    have hn : ¬ ltT (tK P all k') (tK P all k) = true := by show ¬ ltT (pk P all k').t (pk P all k).t = true; rw [hh]; simp
    rw [ltT_iff] at hn
    unfold lowR
    have v1 := C.val (show k < all.length by omega)
    have v2 := C.val h2
    by_cases g : (tK P all k).hl = true ∧ Xr s.a < Xr (tK P all k).l
    · rw [if_pos g]
      have hl' : (tK P all k').hl = true := by
        cases e : (tK P all k').hl
        · exact absurd (.inl ⟨e, g.1⟩) hn
        · rfl
      have nl : ¬ lessB (tK P all k').l (tK P all k).l = true := fun q => hn (.inr ⟨hl', g.1, q⟩)
      rw [less_X (C.ti.ok.endIn (v2.wl hl').1) (C.ti.ok.endIn (v1.wl g.1).1)] at nl
      have g2 := g.2
      rw [if_pos ⟨hl', by grind⟩]
      grind
    · rw [if_neg g]
      split
      · rename_i h; exact Rat.le_of_lt h.2
      · exact Rat.le_refl
  · obtain ⟨p1, p2⟩ := in_iff.1 ⟨h3, h4⟩
    obtain ⟨q1, q2⟩ := in_iff.1 ⟨h5, h6⟩
    exact C.one h1 h2 (C.within h1 p1 p2) (C.within h2 q1 q2)
  · have sp : (lnS s).spans x := ⟨h1, h2⟩
    rcases C.ti.down x ((lnS s).at x) (endsX_iff.1 h3) with ⟨_, id', sg, g1, g2, g3, _⟩ | ⟨_, i, p, g1, g2, g3, _⟩
    · exact absurd g3 (C.ok.sep (id, s) (by simp) (id', sg) (by simp [g1]) (fun e => C.ok.fresh g1 (by rw [← e])) x sp g2)
    · have hm := (C.mem g1).2 ⟨g2, x, sp, g3⟩
      obtain ⟨k, hk⟩ := List.getElem?_of_mem hm
      have hkl := (List.getElem?_eq_some_iff.1 hk).1
      have e : pk P all k = p := by unfold pk; rw [hk]; show (P[i]?).getD pc0 = p; rw [g1]; rfl
      refine ⟨k, hkl, ?_⟩
      refine in_iff.2 ⟨sp, ?_⟩
      show InX (pk P all k).t x
      rw [e]; exact g3.ix
/-- Where they stand. -/
theorem Cx.link (C : Cx S N P id s all) {k : Nat} (hk : k + 1 < all.length) : (tK P all k).hr = true ∧ (tK P all (k + 1)).hl = true ∧ (tK P all k).r = (tK P all (k + 1)).l ∧ Xr s.a < Xr (tK P all (k + 1)).l ∧ Xr (tK P all (k + 1)).l < Xr s.b ∧
    lowR s (tK P all (k + 1)) = Xr (tK P all (k + 1)).l ∧ higR s (tK P all k) = Xr (tK P all (k + 1)).l := by
  obtain ⟨m0, c1, c2, c3, c4⟩ := C.chain
  have e := c2 k hk
  obtain ⟨x1, p1, q1⟩ := C.pass (show k < all.length by omega)
  obtain ⟨x2, p2, q2⟩ := C.pass hk
  have i1 := in_iff.2 ⟨p1, q1.ix⟩
  have i2 := in_iff.2 ⟨p2, q2.ix⟩
  have a1 : Xr s.a < x1 := p1.1
  have b2 : x2 < Xr s.b := p2.2
  have hl : (tK P all (k + 1)).hl = true ∧ Xr s.a < Xr (tK P all (k + 1)).l := by
    by_cases g : (tK P all (k + 1)).hl = true ∧ Xr s.a < Xr (tK P all (k + 1)).l
    · exact g
    · exfalso
      have : lowR s (tK P all (k + 1)) = Xr s.a := by unfold lowR; rw [if_neg g]
      grind
  have hr : (tK P all k).hr = true ∧ Xr (tK P all k).r < Xr s.b := by
    by_cases g : (tK P all k).hr = true ∧ Xr (tK P all k).r < Xr s.b
    · exact g
    · exfalso
      have : higR s (tK P all k) = Xr s.b := by unfold higR; rw [if_neg g]
      grind
  have e1 : lowR s (tK P all (k + 1)) = Xr (tK P all (k + 1)).l := by unfold lowR; rw [if_pos hl]
  have e2 : higR s (tK P all k) = Xr (tK P all k).r := by unfold higR; rw [if_pos hr]
  have ep := C.ti.ok.endEq ((C.val (show k < all.length by omega)).wr hr.1).1 ((C.val hk).wl hl.1).1 (by rw [← e1, ← e2]; exact e)
  exact ⟨hr.1, hl.1, ep, hl.2, by rw [← ep]; exact hr.2, e1, by rw [e2, ep]⟩
theorem Cx.first (C : Cx S N P id s all) : (tK P all 0).hl = true → Xr (tK P all 0).l ≤ Xr s.a := by
  intro h
  obtain ⟨m0, c1, _⟩ := C.chain
  have := c1 m0
  unfold lowR at this
  split at this
  · rename_i g; have := g.2; grind
  · rename_i g
    have : ¬ Xr s.a < Xr (tK P all 0).l := fun q => g ⟨h, q⟩
    grind
theorem Cx.last (C : Cx S N P id s all) : (tK P all (all.length - 1)).hr = true → Xr s.b ≤ Xr (tK P all (all.length - 1)).r := by
  intro h
  obtain ⟨m0, _, _, _, c1⟩ := C.chain
  have := c1 m0
  unfold higR at this
  split at this
  · rename_i g; have := g.2; grind
  · rename_i g
    have : ¬ Xr (tK P all (all.length - 1)).r < Xr s.b := fun q => g ⟨h, q⟩
    grind
/-- The places of the new walls. -/
theorem Cx.lftX (C : Cx S N P id s all) {k : Nat} (hk : k < all.length) : Xr (lftK P s all k) = lowR s (tK P all k) := by
  obtain ⟨m0, c1, _⟩ := C.chain
  unfold lftK
  by_cases h : k = 0
  · subst h; rw [if_pos rfl, c1 m0]
  · rw [if_neg h]
    obtain ⟨j, rfl⟩ : ∃ j, k = j + 1 := ⟨k - 1, by omega⟩
    exact (C.link hk).2.2.2.2.2.1.symm
theorem Cx.rgtX (C : Cx S N P id s all) {k : Nat} (hk : k < all.length) : Xr (rgtK P s all k) = higR s (tK P all k) := by
  obtain ⟨m0, _, _, _, c1⟩ := C.chain
  unfold rgtK
  by_cases h : k + 1 = all.length
  · rw [if_pos h, ← c1 m0, show all.length - 1 = k by omega]
  · rw [if_neg h]
    have := C.link (show k + 1 < all.length by omega)
    rw [this.2.2.2.2.2.2, ← this.2.2.1]
theorem Cx.mono (C : Cx S N P id s all) {k k' : Nat} (h : k < k') (hk : k' < all.length) : Xr (lftK P s all k) < Xr (lftK P s all k') ∧ Xr (rgtK P s all k) ≤ Xr (lftK P s all k') := by
  obtain ⟨m0, c1, c2, c3, c4⟩ := C.chain
  have h1 := c3 k k' h hk
  obtain ⟨x1, p1, q1⟩ := C.pass (show k < all.length by omega)
  have i1 := in_iff.2 ⟨p1, q1.ix⟩
  rw [C.lftX (by omega), C.lftX hk, C.rgtX (by omega)]
  exact ⟨by grind, h1⟩
theorem Cx.ctx (C : Cx S N P id s all) : CtxK N P id s all where
  pcs k hk := by
    obtain ⟨n, h1, h2, _⟩ := C.at hk
    exact ⟨n, h1, h2⟩
  nodup := C.nodup
  wf := C.ti.wf
  nn k k' hk hk' h := by
    obtain ⟨n, a1, a2, a3, _⟩ := C.at hk
    obtain ⟨n', b1, b2, b3, _⟩ := C.at hk'
    have l1 := C.ti.leaf n _ a2 a3
    have l2 := C.ti.leaf n' _ b2 b3
    rw [h] at l1
    have := l1.symm.trans l2
    injection this with this
    unfold lfN at this
    injection this with _ this
    have e : n = n' := by omega
    exact (List.getElem?_inj hk C.nodup).1 (by rw [a1, b1, e])
  ids k hk := ⟨((C.val hk).notId C.ok).2, ((C.val hk).notId C.ok).1⟩
  lft k k' hk hk' h := by
    rcases Nat.lt_trichotomy k k' with q | q | q
    · have := (C.mono q hk').1
      rw [h] at this
      exact absurd this (by grind)
    · exact q
    · have := (C.mono q hk).1
      rw [h] at this
      exact absurd this (by grind)
  ab := by
    obtain ⟨sa, sb, hab, _⟩ := C.new
    cases e : lessB s.b s.a
    · rfl
    · rw [less_X sb sa] at e
      exact absurd e (by grind)
end
end Go.Proofs.Ytlhmjhildlnokaa

/-
  Old trapezes among one line more; the rests at its ends; walls above and below it.
-/
namespace Go.Proofs.Ytlhmjhildlnokaa
set_option linter.unusedVariables false
set_option linter.unusedSimpArgs false
open Go.RowKit Go.Sort Go.Shelf
variable {S : List (Int × Sg)} {N : List Nd} {P : List Pc} {id : Int} {s : Sg} {all : List Nat} {t : Tz}
/-! ### Old trapezes among one line more -/
theorem botL_cons (h : t.bot ≠ id) : botL ((id, s) :: S) t = botL S t := by unfold botL; rw [sgOf_cons h]
theorem topL_cons (h : t.top ≠ id) : topL ((id, s) :: S) t = topL S t := by unfold topL; rw [sgOf_cons h]
theorem inT_cons (h1 : t.bot ≠ id) (h2 : t.top ≠ id) {x y : Rat} : InT ((id, s) :: S) t x y ↔ InT S t x y := by
  constructor
  · rintro ⟨a, b, c⟩
    rw [botL_cons h1] at b
    rw [topL_cons h2] at c
    exact ⟨a, b, c⟩
  · rintro ⟨a, b, c⟩
    rw [← botL_cons (s := s) (S := S) h1] at b
    rw [← topL_cons (s := s) (S := S) h2] at c
    exact ⟨a, b, c⟩
theorem EndS.cons {e : Pt} (h : EndS S e) : EndS ((id, s) :: S) e := by
  obtain ⟨q, hq, he⟩ := h
  exact ⟨q, by simp [hq], he⟩
theorem endS_a : EndS ((id, s) :: S) s.a := ⟨(id, s), by simp, .inl rfl⟩
theorem endS_b : EndS ((id, s) :: S) s.b := ⟨(id, s), by simp, .inr rfl⟩
theorem Val.keep (O : SOk ((id, s) :: S)) (V : Val S t) (hp : ¬ Pass S s t) : Val ((id, s) :: S) t := by
  obtain ⟨n1, n2⟩ := V.notId O
  refine ⟨fun h => ?_, fun h => ?_, V.lr, fun h1 h2 x hx => ?_, fun h => ?_, fun h => ?_, fun q hq x hx hI => ?_, V.zl, V.zr⟩
  · rw [sgOf_cons n1]
    obtain ⟨a, b⟩ := V.bot h
    exact ⟨by simp [a], b⟩
  · rw [sgOf_cons n2]
    obtain ⟨a, b⟩ := V.top h
    exact ⟨by simp [a], b⟩
  · rw [botL_cons n1, topL_cons n2]; exact V.bt h1 h2 x hx
  · rw [botL_cons n1, topL_cons n2]
    obtain ⟨a, b⟩ := V.wl h
    exact ⟨a.cons, b⟩
  · rw [botL_cons n1, topL_cons n2]
    obtain ⟨a, b⟩ := V.wr h
    exact ⟨a.cons, b⟩
  · rw [inT_cons n1 n2] at hI
    rcases List.mem_cons.1 hq with rfl | hq
    · exact hp ⟨x, hx, hI⟩
    · exact V.free q hq x hx hI
theorem sep_le {u v : Ln} (h : u.Sep v) {x y : Rat} (ux : u.spans x) (vx : v.spans x) (uy : u.near y) (vy : v.near y) (hlt : u.at x < v.at x) : u.at y ≤ v.at y := by
  by_cases e : u.at y = v.at y
  · rw [e]; exact Rat.le_refl
  · exact Rat.le_of_lt ((h.ends ux vx uy vy e).1 hlt)
theorem Cx.sepB (C : Cx S N P id s all) {k : Nat} (hk : k < all.length) (h : (tK P all k).bot ≠ 0) : (botL S (tK P all k)).Sep (lnS s) := by
  have hm := ((C.val hk).bot h).1
  exact C.ok.sep _ (List.mem_cons_of_mem _ hm) (id, s) (by simp) fun e => C.ok.fresh hm (congrArg Prod.fst e)
theorem Cx.sepT (C : Cx S N P id s all) {k : Nat} (hk : k < all.length) (h : (tK P all k).top ≠ 0) : (lnS s).Sep (topL S (tK P all k)) := by
  have hm := ((C.val hk).top h).1
  exact C.ok.sep (id, s) (by simp) (_, sgOf S (tK P all k).top) (List.mem_cons_of_mem _ hm) fun e => C.ok.fresh hm (congrArg Prod.fst e).symm
/-- A line as it stands at its ends. -/
theorem Cx.nearS (C : Cx S N P id s all) : (lnS s).near (Xr s.a) ∧ (lnS s).near (Xr s.b) := by
  have := C.new.2.2.1
  exact ⟨⟨Rat.le_refl, show Xr s.a ≤ Xr s.b by grind⟩, ⟨show Xr s.a ≤ Xr s.b by grind, Rat.le_refl⟩⟩
theorem Cx.valL (C : Cx S N P id s all) (h : cbK P s all 0 = true) : Val ((id, s) :: S) (tzK P id s all .L) := by
  have m0 := C.chain.1
  have V := C.val m0
  obtain ⟨n1, n2⟩ := V.notId C.ok
  obtain ⟨sa, sb, hab, ya, yb⟩ := C.new
  obtain ⟨x0, p0, q0⟩ := C.pass m0
  have a0 : Xr s.a < x0 := p0.1
  have hla : (tK P all 0).hl = true → Xr (tK P all 0).l < Xr s.a := fun hl => by
    unfold cbK at h
    simp only [Bool.and_eq_true, Bool.or_eq_true, Bool.not_eq_true'] at h
    rcases h.2 with g | g
    · exact absurd (g.symm.trans hl) (by simp)
    · exact (less_X (C.ti.ok.endIn (V.wl hl).1) sa).1 g
  have har : (tK P all 0).hr = true → Xr s.a < Xr (tK P all 0).r := fun hr => by have := q0.ix.2 hr; grind
  have sub : ∀ {x : Rat}, InX (tzK P id s all .L) x → InX (tK P all 0) x ∧ x < Xr s.a := fun {x} hx => by
    have hxa : x < Xr s.a := hx.2 rfl
    exact ⟨⟨hx.1, fun hr => by have := har hr; grind⟩, hxa⟩
  have eb : botL ((id, s) :: S) (tzK P id s all .L) = botL S (tK P all 0) := botL_cons n1
  have et : topL ((id, s) :: S) (tzK P id s all .L) = topL S (tK P all 0) := topL_cons n2
  refine ⟨fun hb => ?_, fun hb => ?_, fun h1 _ => Xr_lt.1 (hla h1), fun h1 h2 x hx => ?_, fun hl => ?_, fun _ => ⟨endS_a, fun hb => ?_, fun hb => ?_⟩, fun q hq x hx hI => ?_, V.zl, fun h => by cases h⟩
  · obtain ⟨b1, b2, b3, b4, b5⟩ := V.bot hb
    have e : sgOf ((id, s) :: S) (tzK P id s all .L).bot = sgOf S (tK P all 0).bot := sgOf_cons n1
    rw [e]
    refine ⟨List.mem_cons_of_mem _ b1, b2, rfl, b4, ?_⟩
    have := Xr_lt.1 (har b3)
    show Xi s.a ≤ _
    omega
  · obtain ⟨b1, b2, b3, b4, b5⟩ := V.top hb
    have e : sgOf ((id, s) :: S) (tzK P id s all .L).top = sgOf S (tK P all 0).top := sgOf_cons n2
    rw [e]
    refine ⟨List.mem_cons_of_mem _ b1, b2, rfl, b4, ?_⟩
    have := Xr_lt.1 (har b3)
    show Xi s.a ≤ _
    omega
  · rw [eb, et]; exact V.bt h1 h2 x (sub hx).1
  · rw [eb, et]
    obtain ⟨w1, w2⟩ := V.wl hl
    exact ⟨w1.cons, w2⟩
  · rw [eb]
    obtain ⟨b1, b2, b3, b4, b5⟩ := V.bot hb
    have sp := V.botSp hb (x := Xr s.a) ⟨fun hl => hla hl, fun hr => har hr⟩
    have := sep_le (C.sepB m0 hb) (V.botSp hb q0.ix) p0 ⟨Rat.le_of_lt sp.1, Rat.le_of_lt sp.2⟩ C.nearS.1 (q0.lo hb)
    rw [ya] at this
    exact this
  · rw [et]
    have sp := V.topSp hb (x := Xr s.a) ⟨fun hl => hla hl, fun hr => har hr⟩
    have := sep_le (C.sepT m0 hb) p0 (V.topSp hb q0.ix) C.nearS.1 ⟨Rat.le_of_lt sp.1, Rat.le_of_lt sp.2⟩ (q0.hi hb)
    rw [ya] at this
    exact this
  · obtain ⟨i1, i2⟩ := sub hI.ix
    rcases List.mem_cons.1 hq with rfl | hq
    · have : Xr s.a < x := hx.1
      grind
    · exact V.free q hq x hx ⟨i1, fun hb => by have := hI.lo hb; rw [eb] at this; exact this, fun hb => by have := hI.hi hb; rw [et] at this; exact this⟩
theorem Cx.valR (C : Cx S N P id s all) (h : ceK P s all (all.length - 1) = true) : Val ((id, s) :: S) (tzK P id s all .R) := by
  have m0 := C.chain.1
  have m1 : all.length - 1 < all.length := by omega
  have V := C.val m1
  obtain ⟨n1, n2⟩ := V.notId C.ok
  obtain ⟨sa, sb, hab, ya, yb⟩ := C.new
  obtain ⟨x0, p0, q0⟩ := C.pass m1
  have a0 : x0 < Xr s.b := p0.2
  have hbr : (tK P all (all.length - 1)).hr = true → Xr s.b < Xr (tK P all (all.length - 1)).r := fun hl => by
    unfold ceK at h
    simp only [Bool.and_eq_true, Bool.or_eq_true, Bool.not_eq_true'] at h
    rcases h.2 with g | g
    · exact absurd (g.symm.trans hl) (by simp)
    · exact (less_X sb (C.ti.ok.endIn (V.wr hl).1)).1 g
  have hlb : (tK P all (all.length - 1)).hl = true → Xr (tK P all (all.length - 1)).l < Xr s.b := fun hr => by have := q0.ix.1 hr; grind
  have sub : ∀ {x : Rat}, InX (tzK P id s all .R) x → InX (tK P all (all.length - 1)) x ∧ Xr s.b < x := fun {x} hx => by
    have hxa : Xr s.b < x := hx.1 rfl
    exact ⟨⟨fun hr => by have := hlb hr; grind, hx.2⟩, hxa⟩
  have eb : botL ((id, s) :: S) (tzK P id s all .R) = botL S (tK P all (all.length - 1)) := botL_cons n1
  have et : topL ((id, s) :: S) (tzK P id s all .R) = topL S (tK P all (all.length - 1)) := topL_cons n2
  refine ⟨fun hb => ?_, fun hb => ?_, fun _ h1 => Xr_lt.1 (hbr h1), fun h1 h2 x hx => ?_, fun _ => ⟨endS_b, fun hb => ?_, fun hb => ?_⟩, fun hl => ?_, fun q hq x hx hI => ?_, fun h => (by cases h), V.zr⟩
  · obtain ⟨b1, b2, b3, b4, b5⟩ := V.bot hb
    have e : sgOf ((id, s) :: S) (tzK P id s all .R).bot = sgOf S (tK P all (all.length - 1)).bot := sgOf_cons n1
    rw [e]
    refine ⟨List.mem_cons_of_mem _ b1, rfl, b3, ?_, b5⟩
    have := Xr_lt.1 (hlb b2)
    show _ ≤ Xi s.b
    omega
  · obtain ⟨b1, b2, b3, b4, b5⟩ := V.top hb
    have e : sgOf ((id, s) :: S) (tzK P id s all .R).top = sgOf S (tK P all (all.length - 1)).top := sgOf_cons n2
    rw [e]
    refine ⟨List.mem_cons_of_mem _ b1, rfl, b3, ?_, b5⟩
    have := Xr_lt.1 (hlb b2)
    show _ ≤ Xi s.b
    omega
  · rw [eb, et]; exact V.bt h1 h2 x (sub hx).1
  · rw [eb]
    have sp := V.botSp hb (x := Xr s.b) ⟨fun hl => hlb hl, fun hr => hbr hr⟩
    have := sep_le (C.sepB m1 hb) (V.botSp hb q0.ix) p0 ⟨Rat.le_of_lt sp.1, Rat.le_of_lt sp.2⟩ C.nearS.2 (q0.lo hb)
    rw [yb] at this
    exact this
  · rw [et]
    have sp := V.topSp hb (x := Xr s.b) ⟨fun hl => hlb hl, fun hr => hbr hr⟩
    have := sep_le (C.sepT m1 hb) p0 (V.topSp hb q0.ix) C.nearS.2 ⟨Rat.le_of_lt sp.1, Rat.le_of_lt sp.2⟩ (q0.hi hb)
    rw [yb] at this
    exact this
  · rw [eb, et]
    obtain ⟨w1, w2⟩ := V.wr hl
    exact ⟨w1.cons, w2⟩
  · obtain ⟨i1, i2⟩ := sub hI.ix
    rcases List.mem_cons.1 hq with rfl | hq
    · have : x < Xr s.b := hx.2
      grind
    · exact V.free q hq x hx ⟨i1, fun hb => by have := hI.lo hb; rw [eb] at this; exact this, fun hb => by have := hI.hi hb; rw [et] at this; exact this⟩
/-! ### Walls that stand below the line don't part what is above it -/
/-- A wall between two of them: off the line. -/
theorem Cx.wall (C : Cx S N P id s all) {k : Nat} (hk : k + 1 < all.length) : (lnS s).spans (Xr (tK P all (k + 1)).l) ∧ (lnS s).at (Xr (tK P all (k + 1)).l) ≠ Yr (tK P all (k + 1)).l ∧
    (upK P s all (k + 1) = true ↔ (lnS s).at (Xr (tK P all (k + 1)).l) < Yr (tK P all (k + 1)).l) ∧ (dnK P s all (k + 1) = true ↔ Yr (tK P all (k + 1)).l < (lnS s).at (Xr (tK P all (k + 1)).l)) := by
  obtain ⟨l1, l2, l3, l4, l5, _⟩ := C.link hk
  obtain ⟨sa, sb, hab, ya, yb⟩ := C.new
  have sp : (lnS s).spans (Xr (tK P all (k + 1)).l) := ⟨l4, l5⟩
  obtain ⟨q, hq, he⟩ := ((C.val hk).wl l2).1
  have ts := turn_sign (c := (tK P all (k + 1)).l) sa sb (C.ti.ok.endIn ((C.val hk).wl l2).1) hab
  refine ⟨sp, C.ok.off (id, s) (by simp) q (by simp [hq]) _ he sp, ?_, ?_⟩
  · unfold upK; rw [decide_eq_true_eq]; exact ts.1
  · unfold dnK; rw [decide_eq_true_eq]; exact ts.2.1
theorem Cx.topGo (C : Cx S N P id s all) {k j : Nat} (hk : k + 1 < all.length) (hj : j = k ∨ j = k + 1) (hd : Yr (tK P all (k + 1)).l < (lnS s).at (Xr (tK P all (k + 1)).l)) (ht : (tK P all j).top ≠ 0) :
    (topL S (tK P all j)).spans (Xr (tK P all (k + 1)).l) ∧ (lnS s).at (Xr (tK P all (k + 1)).l) < (topL S (tK P all j)).at (Xr (tK P all (k + 1)).l) := by
  obtain ⟨l1, l2, l3, l4, l5, _⟩ := C.link hk
  obtain ⟨w1, w2, _⟩ := C.wall hk
  have hjl : j < all.length := by omega
  have V := C.val hjl
  obtain ⟨x0, p0, q0⟩ := C.pass hjl
  obtain ⟨t1, t2, t3, t4, t5⟩ := V.top ht
  have hln := C.ti.ok.ln1 t1
  simp only at hln
  have s0 := V.topSp ht q0.ix
  have wall : Yr (tK P all (k + 1)).l ≤ (topL S (tK P all j)).at (Xr (tK P all (k + 1)).l) := by
    rcases hj with rfl | rfl
    · have := (V.wr l1).2.2 ht
      rw [l3] at this; exact this
    · exact (V.wl l2).2.2 ht
  have nr : (topL S (tK P all j)).near (Xr (tK P all (k + 1)).l) := by
    have a1 := Xr_le.2 t4
    have a2 := Xr_le.2 t5
    have a3 := Xr_lt.2 (V.lr t2 t3)
    unfold topL
    rcases hj with rfl | rfl
    · rw [l3] at a2 a3
      exact ⟨show Xr _ ≤ _ by grind, show _ ≤ Xr _ by grind⟩
    · exact ⟨show Xr _ ≤ _ by grind, show _ ≤ Xr _ by grind⟩
  have ne : (lnS s).at (Xr (tK P all (k + 1)).l) ≠ (topL S (tK P all j)).at (Xr (tK P all (k + 1)).l) ∨ (lnS s).at (Xr (tK P all (k + 1)).l) = (topL S (tK P all j)).at (Xr (tK P all (k + 1)).l) := by grind
  have le := sep_le (C.sepT hjl ht) p0 s0 ⟨Rat.le_of_lt w1.1, Rat.le_of_lt w1.2⟩ nr (q0.hi ht)
  have sp : (topL S (tK P all j)).spans (Xr (tK P all (k + 1)).l) := by
    have hw := ((C.val hk).wl l2).1
    have e1 : (sgOf S (tK P all j).top).a = (tK P all (k + 1)).l → False := fun e => by
      have : (topL S (tK P all j)).at (Xr (tK P all (k + 1)).l) = Yr (tK P all (k + 1)).l := by rw [← e]; exact hln.2.1
      grind
    have e2 : (sgOf S (tK P all j).top).b = (tK P all (k + 1)).l → False := fun e => by
      have : (topL S (tK P all j)).at (Xr (tK P all (k + 1)).l) = Yr (tK P all (k + 1)).l := by rw [← e]; exact hln.2.2
      grind
    have n1 : Xr (sgOf S (tK P all j).top).a ≠ Xr (tK P all (k + 1)).l := fun e => e1 (C.ti.ok.endEq ⟨_, t1, .inl rfl⟩ hw e)
    have n2 : Xr (sgOf S (tK P all j).top).b ≠ Xr (tK P all (k + 1)).l := fun e => e2 (C.ti.ok.endEq ⟨_, t1, .inr rfl⟩ hw e)
    have g1 : Xr (sgOf S (tK P all j).top).a ≤ Xr (tK P all (k + 1)).l := nr.1
    have g2 : Xr (tK P all (k + 1)).l ≤ Xr (sgOf S (tK P all j).top).b := nr.2
    exact ⟨show Xr (sgOf S (tK P all j).top).a < _ by grind, show _ < Xr (sgOf S (tK P all j).top).b by grind⟩
  exact ⟨sp, (C.sepT hjl ht).keeps p0 s0 w1 sp (q0.hi ht)⟩
theorem Cx.botGo (C : Cx S N P id s all) {k j : Nat} (hk : k + 1 < all.length) (hj : j = k ∨ j = k + 1) (hd : (lnS s).at (Xr (tK P all (k + 1)).l) < Yr (tK P all (k + 1)).l) (ht : (tK P all j).bot ≠ 0) :
    (botL S (tK P all j)).spans (Xr (tK P all (k + 1)).l) ∧ (botL S (tK P all j)).at (Xr (tK P all (k + 1)).l) < (lnS s).at (Xr (tK P all (k + 1)).l) := by
  obtain ⟨l1, l2, l3, l4, l5, _⟩ := C.link hk
  obtain ⟨w1, w2, _⟩ := C.wall hk
  have hjl : j < all.length := by omega
  have V := C.val hjl
  obtain ⟨x0, p0, q0⟩ := C.pass hjl
  obtain ⟨t1, t2, t3, t4, t5⟩ := V.bot ht
  have hln := C.ti.ok.ln1 t1
  simp only at hln
  have s0 := V.botSp ht q0.ix
  have wall : (botL S (tK P all j)).at (Xr (tK P all (k + 1)).l) ≤ Yr (tK P all (k + 1)).l := by
    rcases hj with rfl | rfl
    · have := (V.wr l1).2.1 ht
      rw [l3] at this; exact this
    · exact (V.wl l2).2.1 ht
  have nr : (botL S (tK P all j)).near (Xr (tK P all (k + 1)).l) := by
    have a1 := Xr_le.2 t4
    have a2 := Xr_le.2 t5
    have a3 := Xr_lt.2 (V.lr t2 t3)
    unfold botL
    rcases hj with rfl | rfl
    · rw [l3] at a2 a3
      exact ⟨show Xr _ ≤ _ by grind, show _ ≤ Xr _ by grind⟩
    · exact ⟨show Xr _ ≤ _ by grind, show _ ≤ Xr _ by grind⟩
  have le := sep_le (C.sepB hjl ht) s0 p0 nr ⟨Rat.le_of_lt w1.1, Rat.le_of_lt w1.2⟩ (q0.lo ht)
  have sp : (botL S (tK P all j)).spans (Xr (tK P all (k + 1)).l) := by
    have hw := ((C.val hk).wl l2).1
    have e1 : (sgOf S (tK P all j).bot).a = (tK P all (k + 1)).l → False := fun e => by
      have : (botL S (tK P all j)).at (Xr (tK P all (k + 1)).l) = Yr (tK P all (k + 1)).l := by rw [← e]; exact hln.2.1
      grind
    have e2 : (sgOf S (tK P all j).bot).b = (tK P all (k + 1)).l → False := fun e => by
      have : (botL S (tK P all j)).at (Xr (tK P all (k + 1)).l) = Yr (tK P all (k + 1)).l := by rw [← e]; exact hln.2.2
      grind
    have n1 : Xr (sgOf S (tK P all j).bot).a ≠ Xr (tK P all (k + 1)).l := fun e => e1 (C.ti.ok.endEq ⟨_, t1, .inl rfl⟩ hw e)
    have n2 : Xr (sgOf S (tK P all j).bot).b ≠ Xr (tK P all (k + 1)).l := fun e => e2 (C.ti.ok.endEq ⟨_, t1, .inr rfl⟩ hw e)
    have g1 : Xr (sgOf S (tK P all j).bot).a ≤ Xr (tK P all (k + 1)).l := nr.1
    have g2 : Xr (tK P all (k + 1)).l ≤ Xr (sgOf S (tK P all j).bot).b := nr.2
    exact ⟨show Xr (sgOf S (tK P all j).bot).a < _ by grind, show _ < Xr (sgOf S (tK P all j).bot).b by grind⟩
  exact ⟨sp, (C.sepB hjl ht).keeps s0 p0 sp w1 (q0.lo ht)⟩
end Go.Proofs.Ytlhmjhildlnokaa

/-
  Above the line the top goes on, below it the bottom: runs are trapezes.
-/
namespace Go.Proofs.Ytlhmjhildlnokaa
set_option linter.unusedVariables false
set_option linter.unusedSimpArgs false
open Go.RowKit Go.Sort Go.Shelf
variable {S : List (Int × Sg)} {N : List Nd} {P : List Pc} {id : Int} {s : Sg} {all : List Nat} {t : Tz}
/-! ### Above the line the top goes on, below it the bottom -/
/-- Near a wall, to its right and to its left. -/
theorem Cx.nearR (C : Cx S N P id s all) {k : Nat} (hk : k + 1 < all.length) {Q : Rat → Prop} (h : Nr (Xr (tK P all (k + 1)).l) Q) : ∃ x, Xr (tK P all (k + 1)).l < x ∧ (lnS s).spans x ∧ InX (tK P all (k + 1)) x ∧ Q x := by
  obtain ⟨l1, l2, l3, l4, l5, l6, _⟩ := C.link hk
  obtain ⟨x0, p0, q0⟩ := C.pass hk
  have i0 := in_iff.2 ⟨p0, q0.ix⟩
  rw [l6] at i0
  obtain ⟨x, h1, h2, h3⟩ := (h.and (Nr.lt (show Xr (tK P all (k + 1)).l < higR s (tK P all (k + 1)) by grind))).right
  obtain ⟨g1, g2⟩ := in_iff.1 ⟨by rw [l6]; exact h1, h3⟩
  exact ⟨x, h1, g1, g2, h2⟩
theorem Cx.nearL (C : Cx S N P id s all) {k : Nat} (hk : k + 1 < all.length) {Q : Rat → Prop} (h : Nr (Xr (tK P all (k + 1)).l) Q) : ∃ x, x < Xr (tK P all (k + 1)).l ∧ (lnS s).spans x ∧ InX (tK P all k) x ∧ Q x := by
  obtain ⟨l1, l2, l3, l4, l5, l6, l7⟩ := C.link hk
  obtain ⟨x0, p0, q0⟩ := C.pass (show k < all.length by omega)
  have i0 := in_iff.2 ⟨p0, q0.ix⟩
  rw [l7] at i0
  obtain ⟨x, h1, h2, h3⟩ := (h.and (Nr.gt (show lowR s (tK P all k) < Xr (tK P all (k + 1)).l by grind))).left
  obtain ⟨g1, g2⟩ := in_iff.1 ⟨h3, by rw [l7]; exact h1⟩
  exact ⟨x, h1, g1, g2, h2⟩
theorem Nr.span {u : Ln} {a : Rat} (h : u.spans a) : Nr a fun x => u.spans x := (Nr.gt h.1).and (Nr.lt h.2)
/-- A line above the new one, within a trapeze, isn't below its top. -/
theorem Cx.capT (C : Cx S N P id s all) {k : Nat} (hk : k < all.length) {x : Rat} (p : (lnS s).spans x) (i : InX (tK P all k) x) {q : Int × Sg} (hq : q ∈ S) (sp : (lnS q.2).spans x) (h : (lnS s).at x < (lnS q.2).at x) :
    (tK P all k).top ≠ 0 ∧ (topL S (tK P all k)).at x ≤ (lnS q.2).at x := by
  have w := C.within hk p i
  have f := (C.val hk).free q hq x sp
  have hb : (tK P all k).bot ≠ 0 → (botL S (tK P all k)).at x < (lnS q.2).at x := fun h0 => by have := w.lo h0; grind
  constructor
  · intro e
    exact f ⟨i, hb, fun h0 => absurd e h0⟩
  · by_cases g : (topL S (tK P all k)).at x ≤ (lnS q.2).at x
    · exact g
    · exact absurd ⟨i, hb, fun _ => by grind⟩ f
theorem Cx.capB (C : Cx S N P id s all) {k : Nat} (hk : k < all.length) {x : Rat} (p : (lnS s).spans x) (i : InX (tK P all k) x) {q : Int × Sg} (hq : q ∈ S) (sp : (lnS q.2).spans x) (h : (lnS q.2).at x < (lnS s).at x) :
    (tK P all k).bot ≠ 0 ∧ (lnS q.2).at x ≤ (botL S (tK P all k)).at x := by
  have w := C.within hk p i
  have f := (C.val hk).free q hq x sp
  have hb : (tK P all k).top ≠ 0 → (lnS q.2).at x < (topL S (tK P all k)).at x := fun h0 => by have := w.hi h0; grind
  constructor
  · intro e
    exact f ⟨i, fun h0 => absurd e h0, hb⟩
  · by_cases g : (lnS q.2).at x ≤ (botL S (tK P all k)).at x
    · exact g
    · exact absurd ⟨i, fun _ => by grind, hb⟩ f
theorem Cx.topSame (C : Cx S N P id s all) {k : Nat} (hk : k + 1 < all.length) (hu : upK P s all (k + 1) = false) : (tK P all (k + 1)).top = (tK P all k).top := by
  obtain ⟨w1, w2, w3, _⟩ := C.wall hk
  have hd : Yr (tK P all (k + 1)).l < (lnS s).at (Xr (tK P all (k + 1)).l) := by
    have : ¬ (lnS s).at (Xr (tK P all (k + 1)).l) < Yr (tK P all (k + 1)).l := fun h => by rw [w3.2 h] at hu; cases hu
    grind
  have near : ∀ j, (j = k ∨ j = k + 1) → (tK P all j).top ≠ 0 → Nr (Xr (tK P all (k + 1)).l) fun x => (topL S (tK P all j)).spans x ∧ (lnS s).at x < (topL S (tK P all j)).at x := fun j hj h => by
    obtain ⟨g1, g2⟩ := C.topGo hk hj hd h
    exact (Nr.span g1).and (Nr.below g2)
  have cap1 : (tK P all k).top ≠ 0 → (tK P all (k + 1)).top ≠ 0 := fun h => by
    obtain ⟨x, x1, x2, x3, x4, x5⟩ := C.nearR hk (near k (.inl rfl) h)
    exact (C.capT hk x2 x3 ((C.val (by omega)).top h).1 x4 x5).1
  have cap2 : (tK P all (k + 1)).top ≠ 0 → (tK P all k).top ≠ 0 := fun h => by
    obtain ⟨x, x1, x2, x3, x4, x5⟩ := C.nearL hk (near (k + 1) (.inr rfl) h)
    exact (C.capT (by omega) x2 x3 ((C.val hk).top h).1 x4 x5).1
  by_cases h : (tK P all k).top = 0
  · by_cases h' : (tK P all (k + 1)).top = 0
    · rw [h, h']
    · exact absurd h (cap2 h')
  · have h' := cap1 h
    have m1 := ((C.val (show k < all.length by omega)).top h).1
    have m2 := ((C.val hk).top h').1
    by_cases e : ((tK P all k).top, sgOf S (tK P all k).top) = ((tK P all (k + 1)).top, sgOf S (tK P all (k + 1)).top)
    · exact (congrArg Prod.fst e).symm
    exfalso
    have sep := C.ti.ok.sep _ m1 _ m2 e
    obtain ⟨x, x1, x2, x3, ⟨x4, x5⟩, x6, x7⟩ := C.nearR hk ((near k (.inl rfl) h).and (near (k + 1) (.inr rfl) h'))
    obtain ⟨y, y1, y2, y3, ⟨y4, y5⟩, y6, y7⟩ := C.nearL hk ((near k (.inl rfl) h).and (near (k + 1) (.inr rfl) h'))
    have c1 := (C.capT hk x2 x3 m1 x4 x5).2
    have c2 := (C.capT (show k < all.length by omega) y2 y3 m2 y6 y7).2
    have ne1 := sep x x4 x6
    have ne2 := sep y y4 y6
    have := sep.symm.keeps x6 x4 y6 y4 (by unfold topL at c1; simp only at ne1 c1 ⊢; grind)
    unfold topL at c2
    simp only at this ne2 c2
    grind
theorem Cx.botSame (C : Cx S N P id s all) {k : Nat} (hk : k + 1 < all.length) (hu : dnK P s all (k + 1) = false) : (tK P all (k + 1)).bot = (tK P all k).bot := by
  obtain ⟨w1, w2, _, w3⟩ := C.wall hk
  have hd : (lnS s).at (Xr (tK P all (k + 1)).l) < Yr (tK P all (k + 1)).l := by
    have : ¬ Yr (tK P all (k + 1)).l < (lnS s).at (Xr (tK P all (k + 1)).l) := fun h => by rw [w3.2 h] at hu; cases hu
    grind
  have near : ∀ j, (j = k ∨ j = k + 1) → (tK P all j).bot ≠ 0 → Nr (Xr (tK P all (k + 1)).l) fun x => (botL S (tK P all j)).spans x ∧ (botL S (tK P all j)).at x < (lnS s).at x := fun j hj h => by
    obtain ⟨g1, g2⟩ := C.botGo hk hj hd h
    exact (Nr.span g1).and (Nr.below g2)
  have cap1 : (tK P all k).bot ≠ 0 → (tK P all (k + 1)).bot ≠ 0 := fun h => by
    obtain ⟨x, x1, x2, x3, x4, x5⟩ := C.nearR hk (near k (.inl rfl) h)
    exact (C.capB hk x2 x3 ((C.val (by omega)).bot h).1 x4 x5).1
  have cap2 : (tK P all (k + 1)).bot ≠ 0 → (tK P all k).bot ≠ 0 := fun h => by
    obtain ⟨x, x1, x2, x3, x4, x5⟩ := C.nearL hk (near (k + 1) (.inr rfl) h)
    exact (C.capB (by omega) x2 x3 ((C.val hk).bot h).1 x4 x5).1
  by_cases h : (tK P all k).bot = 0
  · by_cases h' : (tK P all (k + 1)).bot = 0
    · rw [h, h']
    · exact absurd h (cap2 h')
  · have h' := cap1 h
    have m1 := ((C.val (show k < all.length by omega)).bot h).1
    have m2 := ((C.val hk).bot h').1
    by_cases e : ((tK P all k).bot, sgOf S (tK P all k).bot) = ((tK P all (k + 1)).bot, sgOf S (tK P all (k + 1)).bot)
    · exact (congrArg Prod.fst e).symm
    exfalso
    have sep := C.ti.ok.sep _ m1 _ m2 e
    obtain ⟨x, x1, x2, x3, ⟨x4, x5⟩, x6, x7⟩ := C.nearR hk ((near k (.inl rfl) h).and (near (k + 1) (.inr rfl) h'))
    obtain ⟨y, y1, y2, y3, ⟨y4, y5⟩, y6, y7⟩ := C.nearL hk ((near k (.inl rfl) h).and (near (k + 1) (.inr rfl) h'))
    have c1 := (C.capB hk x2 x3 m1 x4 x5).2
    have c2 := (C.capB (show k < all.length by omega) y2 y3 m2 y6 y7).2
    have ne1 := sep x x4 x6
    have ne2 := sep y y4 y6
    have := sep.keeps x4 x6 y4 y6 (by unfold botL at c1; simp only at ne1 c1 ⊢; grind)
    unfold botL at c2
    simp only at this ne2 c2
    grind
theorem runSame {f : Nat → Int} {g : Nat → Bool} {a : Nat} : ∀ {b}, a ≤ b → (∀ i, a < i → i ≤ b → g i = false) → (∀ k, a ≤ k → k + 1 ≤ b → g (k + 1) = false → f (k + 1) = f k) → f b = f a := by
  intro b
  induction b with
  | zero => intro h _ _; rw [show a = 0 by omega]
  | succ b ih =>
    intro h h1 h2
    by_cases e : a = b + 1
    · rw [e]
    · rw [h2 b (by omega) (by omega) (h1 (b + 1) (by omega) (by omega))]
      exact ih (by omega) (fun i p q => h1 i p (by omega)) (fun k p q => h2 k p (by omega))
theorem Cx.topRun (C : Cx S N P id s all) {a b : Nat} (h : RunK (upK P s all) all.length a b) {k : Nat} (h1 : a ≤ k) (h2 : k ≤ b) : (tK P all k).top = (tK P all a).top :=
  runSame (f := fun k => (tK P all k).top) (g := upK P s all) h1 (fun i p q => h.2.2.2.1 i p (by omega)) fun i p q e => C.topSame (by have := h.2.1; omega) e
theorem Cx.botRun (C : Cx S N P id s all) {a b : Nat} (h : RunK (dnK P s all) all.length a b) {k : Nat} (h1 : a ≤ k) (h2 : k ≤ b) : (tK P all k).bot = (tK P all a).bot :=
  runSame (f := fun k => (tK P all k).bot) (g := dnK P s all) h1 (fun i p q => h.2.2.2.1 i p (by omega)) fun i p q e => C.botSame (by have := h.2.1; omega) e
/-- A place of a run: in one of its trapezes, or at a wall between two. -/
theorem Cx.inRun (C : Cx S N P id s all) {a : Nat} {x : Rat} : ∀ {b : Nat}, a ≤ b → b < all.length → lowR s (tK P all a) < x → x < higR s (tK P all b) → ∃ k, a ≤ k ∧ k ≤ b ∧ ((lnS s).spans x ∧ InX (tK P all k) x ∨ a < k ∧ x = Xr (tK P all k).l) := by
  intro b
  induction b with
  | zero =>
    intro h hb h1 h2
    obtain rfl : a = 0 := by omega
    exact ⟨0, by omega, by omega, .inl (in_iff.1 ⟨h1, h2⟩)⟩
  | succ b ih =>
    intro h hb h1 h2
    by_cases e : a = b + 1
    · subst e
      exact ⟨b + 1, by omega, by omega, .inl (in_iff.1 ⟨h1, h2⟩)⟩
    obtain ⟨l1, l2, l3, l4, l5, l6, l7⟩ := C.link hb
    by_cases g : x < higR s (tK P all b)
    · obtain ⟨k, k1, k2, k3⟩ := ih (by omega) (by omega) h1 g
      exact ⟨k, k1, by omega, k3⟩
    · by_cases g2 : x = Xr (tK P all (b + 1)).l
      · exact ⟨b + 1, by omega, by omega, .inr ⟨by omega, g2⟩⟩
      · rw [l7] at g
        exact ⟨b + 1, by omega, by omega, .inl (in_iff.1 ⟨by rw [l6]; grind, h2⟩)⟩
/-- The ends of a run lie within the line. -/
theorem Cx.runX (C : Cx S N P id s all) {a b : Nat} (h : a ≤ b) (hb : b < all.length) : Xr s.a ≤ Xr (lftK P s all a) ∧ Xr (lftK P s all a) < Xr (rgtK P s all b) ∧ Xr (rgtK P s all b) ≤ Xr s.b := by
  rw [C.lftX (by omega), C.rgtX hb]
  obtain ⟨x0, p0, q0⟩ := C.pass (show a < all.length by omega)
  obtain ⟨x1, p1, q1⟩ := C.pass hb
  have i0 := in_iff.2 ⟨p0, q0.ix⟩
  have i1 := in_iff.2 ⟨p1, q1.ix⟩
  have j0 := low_iff (s := s) (t := tK P all a) (x := lowR s (tK P all a))
  have j1 := hig_iff (s := s) (t := tK P all b) (x := higR s (tK P all b))
  refine ⟨?_, ?_, ?_⟩
  · unfold lowR; split
    · rename_i g; exact Rat.le_of_lt g.2
    · exact Rat.le_refl
  · by_cases e : a = b
    · subst e; grind
    · have := C.chain.2.2.2.1 a b (by omega) hb
      grind
  · unfold higR; split
    · rename_i g; exact Rat.le_of_lt g.2
    · exact Rat.le_refl
theorem Cx.lftEnd (C : Cx S N P id s all) {k : Nat} (hk : k < all.length) : (tK P all k).hl = true → Xr (tK P all k).l ≤ Xr (lftK P s all k) := by
  intro h
  unfold lftK
  by_cases e : k = 0
  · subst e; rw [if_pos rfl]; exact C.first h
  · rw [if_neg e]; exact Rat.le_refl
theorem Cx.rgtEnd (C : Cx S N P id s all) {k : Nat} (hk : k < all.length) : (tK P all k).hr = true → Xr (rgtK P s all k) ≤ Xr (tK P all k).r := by
  intro h
  unfold rgtK
  by_cases e : k + 1 = all.length
  · rw [if_pos e]
    have := C.last
    rw [show all.length - 1 = k by omega] at this
    exact this h
  · rw [if_neg e]; exact Rat.le_refl
theorem Cx.valU (C : Cx S N P id s all) {a b : Nat} (h : RunK (upK P s all) all.length a b) : Val ((id, s) :: S) (tzK P id s all (.U a b)) := by
  obtain ⟨r1, r2, r3, r4, r5⟩ := h
  have ha : a < all.length := by omega
  have V := C.val ha
  have Vb := C.val r2
  obtain ⟨n1, n2⟩ := V.notId C.ok
  obtain ⟨sa, sb, hab, ya, yb⟩ := C.new
  have id0 : id ≠ 0 := C.ok.ids (id, s) (by simp)
  obtain ⟨x1, x2, x3⟩ := C.runX r1 r2
  have top := fun k h1 h2 => C.topRun (k := k) ⟨r1, r2, r3, r4, r5⟩ h1 h2
  have tb := top b r1 (Nat.le_refl _)
  have eb : botL ((id, s) :: S) (tzK P id s all (.U a b)) = lnS s := by
    show lnS (sgOf ((id, s) :: S) id) = _
    rw [sgOf_head]
  have et : topL ((id, s) :: S) (tzK P id s all (.U a b)) = topL S (tK P all a) := topL_cons n2
  have etk : ∀ k, a ≤ k → k ≤ b → topL S (tK P all k) = topL S (tK P all a) := fun k h1 h2 => by unfold topL; rw [top k h1 h2]
  obtain ⟨xa, pa, qa⟩ := C.pass ha
  -- the top's span
  have tsp : (tK P all a).top ≠ 0 → (tK P all a).hl = true ∧ (tK P all b).hr = true ∧ Xr (sgOf S (tK P all a).top).a ≤ Xr (lftK P s all a) ∧ Xr (rgtK P s all b) ≤ Xr (sgOf S (tK P all a).top).b := fun ht => by
    obtain ⟨t1, t2, t3, t4, t5⟩ := V.top ht
    obtain ⟨u1, u2, u3, u4, u5⟩ := Vb.top (by rw [tb]; exact ht)
    rw [tb] at u5
    have := C.lftEnd ha t2
    have := C.rgtEnd r2 u3
    have := Xr_le.2 t4
    have := Xr_le.2 u5
    exact ⟨t2, u3, by grind, by grind⟩
  have nearA : (tK P all a).top ≠ 0 → ∀ x, Xr (lftK P s all a) ≤ x → x ≤ Xr (rgtK P s all b) → (topL S (tK P all a)).near x := fun ht x g1 g2 => by
    obtain ⟨_, _, e1, e2⟩ := tsp ht
    exact ⟨show Xr _ ≤ x by grind, show x ≤ Xr _ by grind⟩
  have nearS : ∀ x, Xr (lftK P s all a) ≤ x → x ≤ Xr (rgtK P s all b) → (lnS s).near x := fun x g1 g2 => ⟨show Xr s.a ≤ x by grind, show x ≤ Xr s.b by grind⟩
  have le : (tK P all a).top ≠ 0 → ∀ x, Xr (lftK P s all a) ≤ x → x ≤ Xr (rgtK P s all b) → (lnS s).at x ≤ (topL S (tK P all a)).at x := fun ht x g1 g2 =>
    sep_le (C.sepT ha ht) pa (V.topSp ht qa.ix) (nearS x g1 g2) (nearA ht x g1 g2) (qa.hi ht)
  refine ⟨fun _ => ?_, fun ht => ?_, fun _ _ => Xr_lt.1 x2, fun _ ht x hx => ?_, fun _ => ⟨?_, fun _ => ?_, fun ht => ?_⟩, fun _ => ⟨?_, fun _ => ?_, fun ht => ?_⟩, fun q hq x hx hI => ?_, fun h => (by cases h), fun h => (by cases h)⟩
  · show (id, sgOf ((id, s) :: S) id) ∈ _ ∧ true = true ∧ true = true ∧ Xi (sgOf ((id, s) :: S) id).a ≤ _ ∧ _ ≤ Xi (sgOf ((id, s) :: S) id).b
    rw [sgOf_head]
    exact ⟨by simp, rfl, rfl, Xr_le.1 x1, Xr_le.1 x3⟩
  · obtain ⟨e0, e3, e1, e2⟩ := tsp ht
    have e : sgOf ((id, s) :: S) (tzK P id s all (.U a b)).top = sgOf S (tK P all a).top := sgOf_cons n2
    rw [e]
    exact ⟨List.mem_cons_of_mem _ (V.top ht).1, rfl, rfl, Xr_le.1 e1, Xr_le.1 e2⟩
  · rw [eb, et]
    have y1 : Xr (lftK P s all a) < x := hx.1 rfl
    have y2 : x < Xr (rgtK P s all b) := hx.2 rfl
    obtain ⟨_, _, e1, e2⟩ := tsp ht
    refine (C.sepT ha ht).keeps pa (V.topSp ht qa.ix) ⟨show Xr s.a < x by grind, show x < Xr s.b by grind⟩ ⟨show Xr (sgOf S (tK P all a).top).a < x by grind, show x < Xr (sgOf S (tK P all a).top).b by grind⟩ (qa.hi ht)
  · show EndS _ (lftK P s all a)
    unfold lftK
    split
    · exact endS_a
    · obtain ⟨j, rfl⟩ : ∃ j, a = j + 1 := ⟨a - 1, by omega⟩
      exact (V.wl (C.link ha).2.1).1.cons
  · rw [eb]
    show (lnS s).at (Xr (lftK P s all a)) ≤ Yr (lftK P s all a)
    unfold lftK
    by_cases e : a = 0
    · rw [if_pos e, ya]; exact Rat.le_refl
    · rw [if_neg e]
      obtain ⟨j, rfl⟩ : ∃ j, a = j + 1 := ⟨a - 1, by omega⟩
      rcases r3 with r3 | r3
      · omega
      · exact Rat.le_of_lt ((C.wall ha).2.2.1.1 r3)
  · rw [et]
    have := le ht (Xr (lftK P s all a)) Rat.le_refl (Rat.le_of_lt x2)
    show Yr (lftK P s all a) ≤ (topL S (tK P all a)).at (Xr (lftK P s all a))
    by_cases e : a = 0
    · have e2 : lftK P s all a = s.a := by unfold lftK; rw [if_pos e]
      rw [e2, ya] at this
      rw [e2]; exact this
    · have e2 : lftK P s all a = (tK P all a).l := by unfold lftK; rw [if_neg e]
      rw [e2]
      obtain ⟨j, rfl⟩ : ∃ j, a = j + 1 := ⟨a - 1, by omega⟩
      exact (V.wl (C.link ha).2.1).2.2 ht
  · show EndS _ (rgtK P s all b)
    unfold rgtK
    split
    · exact endS_b
    · exact (Vb.wr (C.link (show b + 1 < all.length by omega)).1).1.cons
  · rw [eb]
    show (lnS s).at (Xr (rgtK P s all b)) ≤ Yr (rgtK P s all b)
    unfold rgtK
    by_cases e : b + 1 = all.length
    · rw [if_pos e, yb]; exact Rat.le_refl
    · rw [if_neg e]
      have hb1 : b + 1 < all.length := by omega
      have l3 := (C.link hb1).2.2.1
      rcases r5 with r5 | r5
      · exact absurd r5 e
      · have := Rat.le_of_lt ((C.wall hb1).2.2.1.1 r5)
        rw [← l3] at this
        exact this
  · rw [et]
    have := le ht (Xr (rgtK P s all b)) (Rat.le_of_lt x2) Rat.le_refl
    show Yr (rgtK P s all b) ≤ (topL S (tK P all a)).at (Xr (rgtK P s all b))
    by_cases e : b + 1 = all.length
    · have e2 : rgtK P s all b = s.b := by unfold rgtK; rw [if_pos e]
      rw [e2, yb] at this
      rw [e2]; exact this
    · have e2 : rgtK P s all b = (tK P all b).r := by unfold rgtK; rw [if_neg e]
      rw [e2, ← etk b r1 (Nat.le_refl _)]
      exact (Vb.wr (C.link (show b + 1 < all.length by omega)).1).2.2 (by rw [tb]; exact ht)
  · have y1 : Xr (lftK P s all a) < x := hI.ix.1 rfl
    have y2 : x < Xr (rgtK P s all b) := hI.ix.2 rfl
    have lo : (lnS s).at x < (lnS q.2).at x := by have := hI.lo id0; rw [eb] at this; exact this
    have hi : (tK P all a).top ≠ 0 → (lnS q.2).at x < (topL S (tK P all a)).at x := fun ht => by have := hI.hi ht; rw [et] at this; exact this
    rcases List.mem_cons.1 hq with rfl | hq
    · grind
    have no : ∀ k, a ≤ k → k ≤ b → ∀ z, (lnS s).spans z → InX (tK P all k) z → (lnS q.2).spans z → (lnS s).at z < (lnS q.2).at z → ((tK P all a).top ≠ 0 → (lnS q.2).at z < (topL S (tK P all a)).at z) → False := fun k k1 k2 z z1 z2 z3 z4 z5 => by
      obtain ⟨c1, c2⟩ := C.capT (show k < all.length by omega) z1 z2 hq z3 z4
      rw [top k k1 k2] at c1
      rw [etk k k1 k2] at c2
      have := z5 c1
      grind
    rw [C.lftX ha] at y1
    rw [C.rgtX r2] at y2
    obtain ⟨k, k1, k2, k3⟩ := C.inRun r1 r2 y1 y2
    rcases k3 with ⟨k3, k4⟩ | ⟨k3, rfl⟩
    · exact no k k1 k2 x k3 k4 hx lo hi
    · obtain ⟨j, rfl⟩ : ∃ j, k = j + 1 := ⟨k - 1, by omega⟩
      have n1 : Nr (Xr (tK P all (j + 1)).l) fun z => (lnS q.2).spans z ∧ (lnS s).at z < (lnS q.2).at z ∧ ((tK P all a).top ≠ 0 → (lnS q.2).at z < (topL S (tK P all a)).at z) :=
        (Nr.span hx).and ((Nr.below lo).and (Nr.imp fun ht => Nr.below (hi ht)))
      obtain ⟨z, _, z1, z2, z3, z4, z5⟩ := C.nearR (show j + 1 < all.length by omega) n1
      exact no (j + 1) k1 k2 z z1 z2 z3 z4 z5
theorem Cx.valD (C : Cx S N P id s all) {a b : Nat} (h : RunK (dnK P s all) all.length a b) : Val ((id, s) :: S) (tzK P id s all (.D a b)) := by
  obtain ⟨r1, r2, r3, r4, r5⟩ := h
  have ha : a < all.length := by omega
  have V := C.val ha
  have Vb := C.val r2
  obtain ⟨n1, n2⟩ := V.notId C.ok
  obtain ⟨sa, sb, hab, ya, yb⟩ := C.new
  have id0 : id ≠ 0 := C.ok.ids (id, s) (by simp)
  obtain ⟨x1, x2, x3⟩ := C.runX r1 r2
  have top := fun k h1 h2 => C.botRun (k := k) ⟨r1, r2, r3, r4, r5⟩ h1 h2
  have tb := top b r1 (Nat.le_refl _)
  have eb : topL ((id, s) :: S) (tzK P id s all (.D a b)) = lnS s := by
    show lnS (sgOf ((id, s) :: S) id) = _
    rw [sgOf_head]
  have et : botL ((id, s) :: S) (tzK P id s all (.D a b)) = botL S (tK P all a) := botL_cons n1
  have etk : ∀ k, a ≤ k → k ≤ b → botL S (tK P all k) = botL S (tK P all a) := fun k h1 h2 => by unfold botL; rw [top k h1 h2]
  obtain ⟨xa, pa, qa⟩ := C.pass ha
  have tsp : (tK P all a).bot ≠ 0 → (tK P all a).hl = true ∧ (tK P all b).hr = true ∧ Xr (sgOf S (tK P all a).bot).a ≤ Xr (lftK P s all a) ∧ Xr (rgtK P s all b) ≤ Xr (sgOf S (tK P all a).bot).b := fun ht => by
    obtain ⟨t1, t2, t3, t4, t5⟩ := V.bot ht
    obtain ⟨u1, u2, u3, u4, u5⟩ := Vb.bot (by rw [tb]; exact ht)
    rw [tb] at u5
    have := C.lftEnd ha t2
    have := C.rgtEnd r2 u3
    have := Xr_le.2 t4
    have := Xr_le.2 u5
    exact ⟨t2, u3, by grind, by grind⟩
  have nearA : (tK P all a).bot ≠ 0 → ∀ x, Xr (lftK P s all a) ≤ x → x ≤ Xr (rgtK P s all b) → (botL S (tK P all a)).near x := fun ht x g1 g2 => by
    obtain ⟨_, _, e1, e2⟩ := tsp ht
    exact ⟨show Xr _ ≤ x by grind, show x ≤ Xr _ by grind⟩
  have nearS : ∀ x, Xr (lftK P s all a) ≤ x → x ≤ Xr (rgtK P s all b) → (lnS s).near x := fun x g1 g2 => ⟨show Xr s.a ≤ x by grind, show x ≤ Xr s.b by grind⟩
  have le : (tK P all a).bot ≠ 0 → ∀ x, Xr (lftK P s all a) ≤ x → x ≤ Xr (rgtK P s all b) → (botL S (tK P all a)).at x ≤ (lnS s).at x := fun ht x g1 g2 =>
    sep_le (C.sepB ha ht) (V.botSp ht qa.ix) pa (nearA ht x g1 g2) (nearS x g1 g2) (qa.lo ht)
  refine ⟨fun ht => ?_, fun _ => ?_, fun _ _ => Xr_lt.1 x2, fun ht _ x hx => ?_, fun _ => ⟨?_, fun ht => ?_, fun _ => ?_⟩, fun _ => ⟨?_, fun ht => ?_, fun _ => ?_⟩, fun q hq x hx hI => ?_, fun h => (by cases h), fun h => (by cases h)⟩
  · obtain ⟨e0, e3, e1, e2⟩ := tsp ht
    have e : sgOf ((id, s) :: S) (tzK P id s all (.D a b)).bot = sgOf S (tK P all a).bot := sgOf_cons n1
    rw [e]
    exact ⟨List.mem_cons_of_mem _ (V.bot ht).1, rfl, rfl, Xr_le.1 e1, Xr_le.1 e2⟩
  · show (id, sgOf ((id, s) :: S) id) ∈ _ ∧ true = true ∧ true = true ∧ Xi (sgOf ((id, s) :: S) id).a ≤ _ ∧ _ ≤ Xi (sgOf ((id, s) :: S) id).b
    rw [sgOf_head]
    exact ⟨by simp, rfl, rfl, Xr_le.1 x1, Xr_le.1 x3⟩
  · rw [eb, et]
    have y1 : Xr (lftK P s all a) < x := hx.1 rfl
    have y2 : x < Xr (rgtK P s all b) := hx.2 rfl
    obtain ⟨_, _, e1, e2⟩ := tsp ht
    refine (C.sepB ha ht).keeps (V.botSp ht qa.ix) pa ⟨show Xr (sgOf S (tK P all a).bot).a < x by grind, show x < Xr (sgOf S (tK P all a).bot).b by grind⟩ ⟨show Xr s.a < x by grind, show x < Xr s.b by grind⟩ (qa.lo ht)
  · show EndS _ (lftK P s all a)
    unfold lftK
    split
    · exact endS_a
    · obtain ⟨j, rfl⟩ : ∃ j, a = j + 1 := ⟨a - 1, by omega⟩
      exact (V.wl (C.link ha).2.1).1.cons
  · rw [et]
    have := le ht (Xr (lftK P s all a)) Rat.le_refl (Rat.le_of_lt x2)
    show (botL S (tK P all a)).at (Xr (lftK P s all a)) ≤ Yr (lftK P s all a)
    by_cases e : a = 0
    · have e2 : lftK P s all a = s.a := by unfold lftK; rw [if_pos e]
      rw [e2, ya] at this
      rw [e2]; exact this
    · have e2 : lftK P s all a = (tK P all a).l := by unfold lftK; rw [if_neg e]
      rw [e2]
      obtain ⟨j, rfl⟩ : ∃ j, a = j + 1 := ⟨a - 1, by omega⟩
      exact (V.wl (C.link ha).2.1).2.1 ht
  · rw [eb]
    show Yr (lftK P s all a) ≤ (lnS s).at (Xr (lftK P s all a))
    unfold lftK
    by_cases e : a = 0
    · rw [if_pos e, ya]; exact Rat.le_refl
    · rw [if_neg e]
      obtain ⟨j, rfl⟩ : ∃ j, a = j + 1 := ⟨a - 1, by omega⟩
      rcases r3 with r3 | r3
      · omega
      · exact Rat.le_of_lt ((C.wall ha).2.2.2.1 r3)
  · show EndS _ (rgtK P s all b)
    unfold rgtK
    split
    · exact endS_b
    · exact (Vb.wr (C.link (show b + 1 < all.length by omega)).1).1.cons
  · rw [et]
    have := le ht (Xr (rgtK P s all b)) (Rat.le_of_lt x2) Rat.le_refl
    show (botL S (tK P all a)).at (Xr (rgtK P s all b)) ≤ Yr (rgtK P s all b)
    by_cases e : b + 1 = all.length
    · have e2 : rgtK P s all b = s.b := by unfold rgtK; rw [if_pos e]
      rw [e2, yb] at this
      rw [e2]; exact this
    · have e2 : rgtK P s all b = (tK P all b).r := by unfold rgtK; rw [if_neg e]
      rw [e2, ← etk b r1 (Nat.le_refl _)]
      exact (Vb.wr (C.link (show b + 1 < all.length by omega)).1).2.1 (by rw [tb]; exact ht)
  · rw [eb]
    show Yr (rgtK P s all b) ≤ (lnS s).at (Xr (rgtK P s all b))
    unfold rgtK
    by_cases e : b + 1 = all.length
    · rw [if_pos e, yb]; exact Rat.le_refl
    · rw [if_neg e]
      have hb1 : b + 1 < all.length := by omega
      have l3 := (C.link hb1).2.2.1
      rcases r5 with r5 | r5
      · exact absurd r5 e
      · have := Rat.le_of_lt ((C.wall hb1).2.2.2.1 r5)
        rw [← l3] at this
        exact this
  · have y1 : Xr (lftK P s all a) < x := hI.ix.1 rfl
    have y2 : x < Xr (rgtK P s all b) := hI.ix.2 rfl
    have lo : (lnS q.2).at x < (lnS s).at x := by have := hI.hi id0; rw [eb] at this; exact this
    have hi : (tK P all a).bot ≠ 0 → (botL S (tK P all a)).at x < (lnS q.2).at x := fun ht => by have := hI.lo ht; rw [et] at this; exact this
    rcases List.mem_cons.1 hq with rfl | hq
    · grind
    have no : ∀ k, a ≤ k → k ≤ b → ∀ z, (lnS s).spans z → InX (tK P all k) z → (lnS q.2).spans z → (lnS q.2).at z < (lnS s).at z → ((tK P all a).bot ≠ 0 → (botL S (tK P all a)).at z < (lnS q.2).at z) → False := fun k k1 k2 z z1 z2 z3 z4 z5 => by
      obtain ⟨c1, c2⟩ := C.capB (show k < all.length by omega) z1 z2 hq z3 z4
      rw [top k k1 k2] at c1
      rw [etk k k1 k2] at c2
      have := z5 c1
      grind
    rw [C.lftX ha] at y1
    rw [C.rgtX r2] at y2
    obtain ⟨k, k1, k2, k3⟩ := C.inRun r1 r2 y1 y2
    rcases k3 with ⟨k3, k4⟩ | ⟨k3, rfl⟩
    · exact no k k1 k2 x k3 k4 hx lo hi
    · obtain ⟨j, rfl⟩ : ∃ j, k = j + 1 := ⟨k - 1, by omega⟩
      have n1 : Nr (Xr (tK P all (j + 1)).l) fun z => (lnS q.2).spans z ∧ (lnS q.2).at z < (lnS s).at z ∧ ((tK P all a).bot ≠ 0 → (botL S (tK P all a)).at z < (lnS q.2).at z) :=
        (Nr.span hx).and ((Nr.below lo).and (Nr.imp fun ht => Nr.below (hi ht)))
      obtain ⟨z, _, z1, z2, z3, z4, z5⟩ := C.nearR (show j + 1 < all.length by omega) n1
      exact no (j + 1) k1 k2 z z1 z2 z3 z4 z5
end Go.Proofs.Ytlhmjhildlnokaa

/-
  An index stays one when a line is put in.
-/
namespace Go.Proofs.Ytlhmjhildlnokaa
set_option linter.unusedVariables false
set_option linter.unusedSimpArgs false
open Go.RowKit Go.Sort Go.Shelf
variable {S S' : List (Int × Sg)} {N N' : List Nd} {P : List Pc} {id : Int} {s : Sg} {all : List Nat} {t : Tz} {x y : Rat}
/-! ### Questions, with one line more -/
theorem Desc.onM (hN : ∀ (n : Nat) (q : Nd), N[n]? = some q → q.k ≠ 0 → N'[n]? = some q) (hS : ∀ q ∈ S, q ∈ S') {k n : Nat} {r : Ans} (h : Desc N S x y k n r) : ∀ i, r = .on i → Desc N' S' x y k n (.on i) := by
  induction h with
  | leaf => intro i e; cases e
  | ptL h hk hp hx hm _ ih => exact fun i e => .ptL (hN _ _ h (by rw [hk]; decide)) hk hp hx hm (ih i e)
  | ptR h hk hp hx hm _ ih => exact fun i e => .ptR (hN _ _ h (by rw [hk]; decide)) hk hp hx hm (ih i e)
  | lnU h hk hs hy hm _ ih => exact fun i e => .lnU (hN _ _ h (by rw [hk]; decide)) hk (hS _ hs) hy hm (ih i e)
  | lnD h hk hs hy hm _ ih => exact fun i e => .lnD (hN _ _ h (by rw [hk]; decide)) hk (hS _ hs) hy hm (ih i e)
  | on h hk hs hy =>
    intro i e
    injection e with e
    subst e
    exact .on (hN _ _ h (by rw [hk]; decide)) hk (hS _ hs) hy
theorem Desc.leafM (hN : ∀ (n : Nat) (q : Nd), N[n]? = some q → q.k ≠ 0 → N'[n]? = some q) (hS : ∀ q ∈ S, q ∈ S') {k n : Nat} {r : Ans} (h : Desc N S x y k n r) : ∀ m, r = .leaf m → ∀ j r', Desc N' S' x y j m r' → ∃ k', Desc N' S' x y k' n r' := by
  induction h with
  | leaf => intro m e j r' g; injection e with e; subst e; exact ⟨j, g⟩
  | ptL h hk hp hx hm _ ih =>
    intro m e j r' g
    obtain ⟨k', h'⟩ := ih m e j r' g
    exact ⟨_, .ptL (hN _ _ h (by rw [hk]; decide)) hk hp hx hm h'⟩
  | ptR h hk hp hx hm _ ih =>
    intro m e j r' g
    obtain ⟨k', h'⟩ := ih m e j r' g
    exact ⟨_, .ptR (hN _ _ h (by rw [hk]; decide)) hk hp hx hm h'⟩
  | lnU h hk hs hy hm _ ih =>
    intro m e j r' g
    obtain ⟨k', h'⟩ := ih m e j r' g
    exact ⟨_, .lnU (hN _ _ h (by rw [hk]; decide)) hk (hS _ hs) hy hm h'⟩
  | lnD h hk hs hy hm _ ih =>
    intro m e j r' g
    obtain ⟨k', h'⟩ := ih m e j r' g
    exact ⟨_, .lnD (hN _ _ h (by rw [hk]; decide)) hk (hS _ hs) hy hm h'⟩
  | on => intro m e; cases e
section
variable {X : PSt}
/-- From a node to what is at a place. -/
def Goes (id : Int) (s : Sg) (S : List (Int × Sg)) (X : PSt) (x y : Rat) (n : Nat) : Prop :=
  ∃ j r, Desc X.N ((id, s) :: S) x y j n r ∧ ((r = .on id ∧ (lnS s).spans x ∧ y = (lnS s).at x) ∨ ∃ (i : Nat) (p : Pc), X.P[i]? = some p ∧ p.g = false ∧ InT ((id, s) :: S) p.t x y ∧ r = .leaf p.n.toNat)
theorem goes_leaf {i n : Nat} {K : Kd} (hA : AtN N P id s all X i n K) (hI : InT ((id, s) :: S) (tzK P id s all K) x y) : Goes id s S X x y n :=
  ⟨0, .leaf n, .leaf hA.2.2 rfl, .inr ⟨i, _, hA.2.1, rfl, hI, rfl⟩⟩
theorem goes_pt {c m : Nat} {q : Nd} (h : X.N[c]? = some q) (hk : q.k = 1) (hp : InP q.p) (hc : x < Xr q.p ∧ q.a = (m : Int) ∨ Xr q.p < x ∧ q.b = (m : Int)) (g : Goes id s S X x y m) : Goes id s S X x y c := by
  obtain ⟨j, r, g1, g2⟩ := g
  rcases hc with ⟨h1, h2⟩ | ⟨h1, h2⟩
  · exact ⟨_, r, .ptL h hk hp h1 h2 g1, g2⟩
  · exact ⟨_, r, .ptR h hk hp h1 h2 g1, g2⟩
theorem Cx.inU (C : Cx S N P id s all) {a b k : Nat} (h : RunK (upK P s all) all.length a b) (h1 : a ≤ k) (h2 : k ≤ b) (hI : InT S (tK P all k) x y) (sp : (lnS s).spans x) (hy : (lnS s).at x < y) : InT ((id, s) :: S) (tzK P id s all (.U a b)) x y := by
  have hb := h.2.1
  obtain ⟨n1, n2⟩ := (C.val (show a < all.length by omega)).notId C.ok
  have i0 := in_iff.2 ⟨sp, hI.ix⟩
  refine ⟨⟨fun _ => ?_, fun _ => ?_⟩, fun _ => ?_, fun ht => ?_⟩
  · show Xr (lftK P s all a) < x
    have : Xr (lftK P s all a) ≤ Xr (lftK P s all k) := by
      by_cases e : a = k
      · rw [e]; exact Rat.le_refl
      · exact Rat.le_of_lt (C.mono (show a < k by omega) (by omega)).1
    rw [C.lftX (show k < all.length by omega)] at this
    grind
  · show x < Xr (rgtK P s all b)
    have : Xr (rgtK P s all k) ≤ Xr (rgtK P s all b) := by
      by_cases e : k = b
      · rw [e]; exact Rat.le_refl
      · have h3 := (C.mono (show k < b by omega) hb).2
        have h4 := (C.runX (Nat.le_refl b) hb).2.1
        grind
    rw [C.rgtX (show k < all.length by omega)] at this
    grind
  · show (lnS (sgOf ((id, s) :: S) id)).at x < y
    rw [sgOf_head]; exact hy
  · have e : topL ((id, s) :: S) (tzK P id s all (.U a b)) = topL S (tK P all a) := topL_cons n2
    rw [e]
    have et := C.topRun h h1 h2
    have := hI.hi (by rw [et]; exact ht)
    unfold topL at this ⊢
    rw [et] at this
    exact this
theorem Cx.inD (C : Cx S N P id s all) {a b k : Nat} (h : RunK (dnK P s all) all.length a b) (h1 : a ≤ k) (h2 : k ≤ b) (hI : InT S (tK P all k) x y) (sp : (lnS s).spans x) (hy : y < (lnS s).at x) : InT ((id, s) :: S) (tzK P id s all (.D a b)) x y := by
  have hb := h.2.1
  obtain ⟨n1, n2⟩ := (C.val (show a < all.length by omega)).notId C.ok
  have i0 := in_iff.2 ⟨sp, hI.ix⟩
  refine ⟨⟨fun _ => ?_, fun _ => ?_⟩, fun ht => ?_, fun _ => ?_⟩
  · show Xr (lftK P s all a) < x
    have : Xr (lftK P s all a) ≤ Xr (lftK P s all k) := by
      by_cases e : a = k
      · rw [e]; exact Rat.le_refl
      · exact Rat.le_of_lt (C.mono (show a < k by omega) (by omega)).1
    rw [C.lftX (show k < all.length by omega)] at this
    grind
  · show x < Xr (rgtK P s all b)
    have : Xr (rgtK P s all k) ≤ Xr (rgtK P s all b) := by
      by_cases e : k = b
      · rw [e]; exact Rat.le_refl
      · have h3 := (C.mono (show k < b by omega) hb).2
        have h4 := (C.runX (Nat.le_refl b) hb).2.1
        grind
    rw [C.rgtX (show k < all.length by omega)] at this
    grind
  · have e : botL ((id, s) :: S) (tzK P id s all (.D a b)) = botL S (tK P all a) := botL_cons n1
    rw [e]
    have et := C.botRun h h1 h2
    have := hI.lo (by rw [et]; exact ht)
    unfold botL at this ⊢
    rw [et] at this
    exact this
  · show y < (lnS (sgOf ((id, s) :: S) id)).at x
    rw [sgOf_head]; exact hy
theorem Cx.inL (C : Cx S N P id s all) (hI : InT S (tK P all 0) x y) (hx : x < Xr s.a) : InT ((id, s) :: S) (tzK P id s all .L) x y := by
  obtain ⟨n1, n2⟩ := (C.val C.chain.1).notId C.ok
  have : InT S (tzK P id s all .L) x y := ⟨⟨hI.ix.1, fun _ => hx⟩, hI.lo, hI.hi⟩
  exact (inT_cons (t := tzK P id s all .L) n1 n2).2 this
theorem Cx.inR (C : Cx S N P id s all) (hI : InT S (tK P all (all.length - 1)) x y) (hx : Xr s.b < x) : InT ((id, s) :: S) (tzK P id s all .R) x y := by
  obtain ⟨n1, n2⟩ := (C.val (show all.length - 1 < all.length by have := C.chain.1; omega)).notId C.ok
  have : InT S (tzK P id s all .R) x y := ⟨⟨fun _ => hx, hI.ix.2⟩, hI.lo, hI.hi⟩
  exact (inT_cons (t := tzK P id s all .R) n1 n2).2 this
/-- A point of a trapeze that was crossed: its leaf's place leads to what is there now. -/
theorem Cx.goes (C : Cx S N P id s all) (H : CI N P id s all all.length X) {k : Nat} (hk : k < all.length) (hI : InT S (tK P all k) x y) (ha : x ≠ Xr s.a) (hb : x ≠ Xr s.b) : Goes id s S X x y (pk P all k).n.toNat := by
  obtain ⟨sa, sb, hab, ya, yb⟩ := C.new
  obtain ⟨u, d, pu, pd, su, eu, sd, ed, h1, h2, h3, h4, h5, h6, h7, h8, h9, h10, _, q1, q2, q3, g1, g2, g3, g4⟩ := H.F k hk
  have V := C.val hk
  have line : Xr s.a < x → x < Xr s.b → ∀ c, X.N[c]? = some q1 → Goes id s S X x y c := by
    intro x1 x2 c hc
    have sp : (lnS s).spans x := ⟨x1, x2⟩
    subst g1
    by_cases e : y = (lnS s).at x
    · exact ⟨0, .on id, .on (s := s) hc rfl (by simp) e, .inl ⟨rfl, sp, e⟩⟩
    · by_cases up : (lnS s).at x < y
      · obtain ⟨j, r, a1, a2⟩ := goes_leaf (S := S) h9 (C.inU h7 h1 h2 hI sp up)
        exact ⟨_, r, .lnU (s := s) hc rfl (by simp) up rfl a1, a2⟩
      · have dn : y < (lnS s).at x := by grind
        obtain ⟨j, r, a1, a2⟩ := goes_leaf (S := S) h10 (C.inD h8 h3 h4 hI sp dn)
        exact ⟨_, r, .lnD (s := s) hc rfl (by simp) dn rfl a1, a2⟩
  have fin : Xr s.a < x → ∀ c, X.N[c]? = some q2 → Goes id s S X x y c := by
    intro x1 c hc
    cases hce : ceK P s all k
    · rw [hce] at g2
      have g2' : q2 = q1 := g2
      rw [g2'] at hc
      refine line x1 ?_ c hc
      by_cases e : k + 1 = all.length
      · unfold ceK at hce
        rw [decide_eq_true e, Bool.true_and, Bool.or_eq_false_iff, Bool.not_eq_false'] at hce
        have h1 := hI.ix.2 hce.1
        have h2 : ¬ Xr s.b < Xr (tK P all k).r := fun q => by
          rw [(less_X sb (C.ti.ok.endIn (V.wr hce.1).1)).2 q] at hce
          cases hce.2
        grind
      · obtain ⟨l1, _, l3, _, l5, _⟩ := C.link (show k + 1 < all.length by omega)
        have := hI.ix.2 l1
        rw [l3] at this
        grind
    · rw [hce, if_pos rfl] at g2
      obtain ⟨c', e, i, m1, m2, m3, m4, rfl⟩ := g2
      have hm : k = all.length - 1 := by
        unfold ceK at hce
        simp only [Bool.and_eq_true, decide_eq_true_eq] at hce
        omega
      by_cases x2 : x < Xr s.b
      · exact goes_pt hc rfl sb (.inl ⟨x2, rfl⟩) (line x1 x2 c' m2)
      · have x3 : Xr s.b < x := by grind
        refine goes_pt hc rfl sb (.inr ⟨x3, rfl⟩) (goes_leaf m4 (C.inR ?_ x3))
        rw [← hm]; exact hI
  cases hcb : cbK P s all k
  · rw [hcb] at g3
    have g3' : q3 = q2 := g3
    rw [g3'] at g4
    refine fin ?_ _ g4
    by_cases e : k = 0
    · subst e
      unfold cbK at hcb
      rw [decide_eq_true rfl, Bool.true_and, Bool.or_eq_false_iff, Bool.not_eq_false'] at hcb
      have h1 := hI.ix.1 hcb.1
      have h2 : ¬ Xr (tK P all 0).l < Xr s.a := fun q => by
        rw [(less_X (C.ti.ok.endIn (V.wl hcb.1).1) sa).2 q] at hcb
        cases hcb.2
      grind
    · obtain ⟨j, rfl⟩ : ∃ j, k = j + 1 := ⟨k - 1, by omega⟩
      obtain ⟨_, l2, _, l4, _⟩ := C.link hk
      have := hI.ix.1 l2
      grind
  · rw [hcb, if_pos rfl] at g3
    obtain ⟨c', e, i, m1, m2, m3, m4, rfl⟩ := g3
    have hm : k = 0 := by
      unfold cbK at hcb
      simp only [Bool.and_eq_true, decide_eq_true_eq] at hcb
      exact hcb.1
    by_cases x2 : x < Xr s.a
    · refine goes_pt g4 rfl sa (.inl ⟨x2, rfl⟩) (goes_leaf m4 (C.inL ?_ x2))
      rw [← hm]; exact hI
    · have x3 : Xr s.a < x := by grind
      exact goes_pt g4 rfl sa (.inr ⟨x3, rfl⟩) (fin x3 c' m2)
end
/-- An index stays one. -/
theorem TI.put (C : Cx S N P id s all) : TI ((id, s) :: S) (roundsS id s all all.length ⟨N, P, 0, 0⟩).N (roundsS id s all all.length ⟨N, P, 0, 0⟩).P := by
  have hg : ∀ k, k < all.length → (pk P all k).g = false := fun k hk => by obtain ⟨n, _, _, h, _⟩ := C.at hk; exact h
  have H := rounds_CI C.ctx hg all.length (Nat.le_refl _)
  have W := (roundsS_size (id := id) (s := s) C.ti.wf C.nodup (fun n hn => (cross_few C.cr).2.1 n hn) all.length (Nat.le_refl _)).2.2.1
  generalize roundsS id s all all.length ⟨N, P, 0, 0⟩ = X at *
  have hta : all.take all.length = all := List.take_length
  have m0 := C.chain.1
  -- who lives
  have old : ∀ (i : Nat) (p : Pc), X.P[i]? = some p → p.g = false → i < P.length → P[i]? = some p ∧ i ∉ all ∧ ¬ Pass S s p.t := by
    intro i p h1 h2 h3
    have hn : i ∉ all := fun hm => by
      obtain ⟨q, g1, g2⟩ := H.gone i (by rw [hta]; exact hm)
      rw [h1] at g1
      injection g1 with g1
      rw [← g1, h2] at g2; cases g2
    have hp : P[i]? = some p := (H.oldP i h3 (by rw [hta]; exact hn)).symm.trans h1
    exact ⟨hp, hn, fun h => hn ((C.mem hp).2 ⟨h2, h⟩)⟩
  have new : ∀ (i : Nat) (p : Pc), X.P[i]? = some p → P.length ≤ i → ∃ K n, OkK P s all all.length K ∧ AtN N P id s all X i n K ∧ p = ⟨tzK P id s all K, (n : Int), false⟩ := by
    intro i p h1 h2
    obtain ⟨K, n, g1, g2⟩ := H.new i h2 (List.getElem?_eq_some_iff.1 h1).1
    have := g2.2.1
    rw [h1] at this
    injection this with this
    exact ⟨K, n, g1, g2, this⟩
  have valK : ∀ K, OkK P s all all.length K → Val ((id, s) :: S) (tzK P id s all K) := by
    intro K hK
    cases K with
    | U a b => exact C.valU hK
    | D a b => exact C.valD hK
    | L => exact C.valL hK.2
    | R => exact C.valR hK.2.2
  have nodeK : ∀ (i : Nat) (p : Pc), P[i]? = some p → p.g = false → i ∉ all → ∀ k, k < all.length → (pk P all k).n.toNat ≠ p.n.toNat := by
    intro i p h1 h2 h3 k hk e
    obtain ⟨n, a1, a2, a3, _⟩ := C.at hk
    have l1 := C.ti.leaf n _ a2 a3
    have l2 := C.ti.leaf i p h1 h2
    rw [e, l2] at l1
    injection l1 with l1
    unfold lfN at l1
    injection l1 with _ l1
    have : i = n := by omega
    rw [this] at h3
    exact h3 (List.mem_of_getElem? a1)
  have oldNode : ∀ (n : Nat) (q : Nd), N[n]? = some q → q.k ≠ 0 → X.N[n]? = some q := by
    intro n q h1 h2
    rw [H.oldN n (List.getElem?_eq_some_iff.1 h1).1 (fun k hk e => ?_)]
    · exact h1
    · obtain ⟨m, a1, a2, a3, _⟩ := C.at hk
      have l1 := C.ti.leaf m _ a2 a3
      rw [e, h1] at l1
      injection l1 with l1
      rw [l1] at h2
      exact h2 rfl
  -- an old trapeze isn't a new one
  have apart : ∀ (i : Nat) (p : Pc) (K : Kd), P[i]? = some p → p.g = false → i ∉ all → OkK P s all all.length K → p.t ≠ tzK P id s all K := by
    intro i p K h1 h2 h3 hK e
    have V := C.ti.val i p h1 h2
    obtain ⟨n1, n2⟩ := V.notId C.ok
    have same : ∀ k, k < all.length → (∀ x y, InT ((id, s) :: S) (tzK P id s all K) x y → InT S (tK P all k) x y) → False := by
      intro k hk hh
      have VK := valK K hK
      obtain ⟨x, hx, _⟩ := VK.someX []
      obtain ⟨y, hy⟩ := VK.someY hx
      have a1 := hh x y hy
      rw [← e] at hy
      have a2 := (inT_cons n1 n2).1 hy
      obtain ⟨m, b1, b2, b3, _, b5⟩ := C.at hk
      have := C.ti.dist i m _ _ h1 b2 h2 b3 (val_uniq C.ti.ok V b5 a2 a1)
      rw [this] at h3
      exact h3 (List.mem_of_getElem? b1)
    cases K with
    | U a b => exact n1 (by rw [e]; rfl)
    | D a b => exact n2 (by rw [e]; rfl)
    | L =>
      obtain ⟨c1, c2⟩ := (C.val m0).notId C.ok
      refine same 0 m0 fun x y hI => ?_
      have hI := (inT_cons (t := tzK P id s all .L) c1 c2).1 hI
      have har : (tK P all 0).hr = true → Xr s.a < Xr (tK P all 0).r := fun hr => by
        obtain ⟨x0, p0, q0⟩ := C.pass m0
        have := q0.ix.2 hr
        have a0 : Xr s.a < x0 := p0.1
        grind
      have hxa : x < Xr s.a := hI.ix.2 rfl
      exact ⟨⟨hI.ix.1, fun hr => by have := har hr; grind⟩, hI.lo, hI.hi⟩
    | R =>
      have m1 : all.length - 1 < all.length := by omega
      obtain ⟨c1, c2⟩ := (C.val m1).notId C.ok
      refine same _ m1 fun x y hI => ?_
      have hI := (inT_cons (t := tzK P id s all .R) c1 c2).1 hI
      have hlb : (tK P all (all.length - 1)).hl = true → Xr (tK P all (all.length - 1)).l < Xr s.b := fun hr => by
        obtain ⟨x0, p0, q0⟩ := C.pass m1
        have := q0.ix.1 hr
        have a0 : x0 < Xr s.b := p0.2
        grind
      have hxa : Xr s.b < x := hI.ix.1 rfl
      exact ⟨⟨fun hr => by have := hlb hr; grind, hI.ix.2⟩, hI.lo, hI.hi⟩
  refine ⟨C.ok, W, fun i p h1 h2 => ?_, fun i p h1 h2 => ?_, fun i j p q h1 h2 h3 h4 h5 => ?_, fun x y hx => ?_⟩
  · by_cases hi : i < P.length
    · obtain ⟨a1, a2, a3⟩ := old i p h1 h2 hi
      exact (C.ti.val i p a1 h2).keep C.ok a3
    · obtain ⟨K, n, g1, g2, rfl⟩ := new i p h1 (by omega)
      exact valK K g1
  · by_cases hi : i < P.length
    · obtain ⟨a1, a2, a3⟩ := old i p h1 h2 hi
      have l := C.ti.leaf i p a1 h2
      rw [H.oldN _ (List.getElem?_eq_some_iff.1 l).1 (nodeK i p a1 h2 a2)]
      exact l
    · obtain ⟨K, n, g1, g2, rfl⟩ := new i p h1 (by omega)
      exact g2.2.2
  · by_cases hi : i < P.length <;> by_cases hj : j < P.length
    · exact C.ti.dist i j p q (old i p h1 h3 hi).1 (old j q h2 h4 hj).1 h3 h4 h5
    · obtain ⟨a1, a2, _⟩ := old i p h1 h3 hi
      obtain ⟨K, n, g1, g2, rfl⟩ := new j q h2 (by omega)
      exact absurd h5 (apart i p K a1 h3 a2 g1)
    · obtain ⟨a1, a2, _⟩ := old j q h2 h4 hj
      obtain ⟨K, n, g1, g2, rfl⟩ := new i p h1 (by omega)
      exact absurd h5.symm (apart j q K a1 h4 a2 g1)
    · obtain ⟨K, n, g1, g2, rfl⟩ := new i p h1 (by omega)
      obtain ⟨K', n', g1', g2', rfl⟩ := new j q h2 (by omega)
      exact H.one i j n n' K K' (by omega) (by omega) g1 g1' g2 g2' (tz_tag C.ctx (Nat.le_refl _) g1 g1' h5)
  · rcases C.ti.down x y (fun e he => hx e he.cons) with ⟨k, i', sg, g1, g2, g3, g4⟩ | ⟨k, i, p, g1, g2, g3, g4⟩
    · exact .inl ⟨k, i', sg, by simp [g1], g2, g3, g4.onM oldNode (fun q hq => by simp [hq]) i' rfl⟩
    · by_cases hm : i ∈ all
      · obtain ⟨k0, hk0⟩ := List.getElem?_of_mem hm
        have hkl := (List.getElem?_eq_some_iff.1 hk0).1
        have e : pk P all k0 = p := by unfold pk; rw [hk0]; show (P[i]?).getD pc0 = p; rw [g1]; rfl
        have hI : InT S (tK P all k0) x y := by show InT S (pk P all k0).t x y; rw [e]; exact g3
        obtain ⟨j, r, a1, a2⟩ := C.goes H hkl hI (hx _ endS_a) (hx _ endS_b)
        rw [e] at a1
        obtain ⟨k', a3⟩ := g4.leafM oldNode (fun q hq => List.mem_cons_of_mem (id, s) hq) _ rfl j r a1
        rcases a2 with ⟨rfl, a4, a5⟩ | ⟨i', p', b1, b2, b3, rfl⟩
        · exact .inl ⟨k', id, s, by simp, a4, a5, a3⟩
        · exact .inr ⟨k', i', p', b1, b2, b3, a3⟩
      · have hi := (List.getElem?_eq_some_iff.1 g1).1
        have hX : X.P[i]? = some p := (H.oldP i hi (by rw [hta]; exact hm)).trans g1
        obtain ⟨n1, n2⟩ := (C.ti.val i p g1 g2).notId C.ok
        have l := C.ti.leaf i p g1 g2
        have lX : X.N[p.n.toNat]? = some (lfN i) := by
          rw [H.oldN _ (List.getElem?_eq_some_iff.1 l).1 (nodeK i p g1 g2 hm)]
          exact l
        obtain ⟨k', a3⟩ := g4.leafM oldNode (fun q hq => List.mem_cons_of_mem (id, s) hq) _ rfl 0 _ (.leaf lX rfl)
        exact .inr ⟨k', i, p, hX, g2, (inT_cons n1 n2).2 g3, a3⟩
end Go.Proofs.Ytlhmjhildlnokaa
