/-
  The document's Find answers as the index's.
-/
import Derived.Test.YtlhmjhildlnokaaGreatMd6b25c4b
import Derived.Test.YtlhmjhildlnokaaGreatMc8910ffd
import Derived.Test.YtlhmjhildlnokaaGreatMecd39090
import Derived.Test.YtlhmjhildlnokaaGreatM01095c5b
import Derived.Test.YtlhmjhildlnokaaGreatM1e5483af
namespace Go.Proofs.YtlhmjhildlnokaaGreat
set_option linter.unusedVariables false
set_option linter.unusedSimpArgs false
open Go.RowKit
set_option maxRecDepth 100000 in
set_option maxHeartbeats 8000000 in
theorem refLine_any (vs : List Vt) (A A2 : Option Addr) (n m : Nat) (c c2 : Nat) (F : Nat → Prop) (i x y : Int) (w : World) (hn : n = vs.length) (hs : Sl F w A (vR vs)) (hl : n ≤ 1000000) (hx : (vs.find? fun v => v.id == x).isSome = true) (hy : (vs.find? fun v => v.id == y).isSome = true) :
  Calls Tryz.prog 27 #[.agg #[.slice A n c, .slice A2 m c2], v3 i x y] w fun e w' => e = .returned (.tuple #[pV (segZ vs x y).a.x (segZ vs x y).a.y, pV (segZ vs x y).b.x (segZ vs x y).b.y]) ∧ Below w.heap.size w w' := by
 obtain ⟨b0, o0, H, f0⟩ := (Own.start w).addSl (hs.ro (by rfl))
 clear hs
 obtain ⟨i1, ax, ay, e1, r1⟩ := vt_some hx
 obtain ⟨i2, bx, b_y, e2, r2⟩ := vt_some hy
 have h1 := fun F w h => refAt_any vs A A2 n m c c2 F x i1 ax ay w hn h hl e1
 have h2 := fun F w h => refAt_any vs A A2 n m c c2 F y i2 bx b_y w hn h hl e2
 have hz : segZ vs x y = if lessB ⟨bx, b_y⟩ ⟨ax, ay⟩ = true then ⟨⟨bx, b_y⟩, ⟨ax, ay⟩⟩ else ⟨⟨ax, ay⟩, ⟨bx, b_y⟩⟩ := by unfold segZ; rw [r1, r2]
 have h3 := fun w => refLess_any bx b_y ax ay w
 rw [hz]
 clear hx hy hn hz e1 e2 r1 r2
 generalize lessB ⟨bx, b_y⟩ ⟨ax, ay⟩ = v at h3 ⊢
 cases v
 ·simp only [Bool.false_eq_true, if_false]
  go_enter Tryz.func27, Tryz.ntmps27
  have tk0 : True := trivial
  have tk1 : True := trivial
  have tk2 : True := trivial
  have tk3 : True := trivial
  go_wp2_with (first
   | (guard_target = Code.wp _ (Code.region 1 _ true) _ _ _; refine region_treeC0 1 (G := ?_) (.q 0 (.q 1 (.q 2 (.q 3 (.q 4 (.q 5 (.q 6 (.q 7 (.both (.e 8 (.e 9 (.e 10 (.e 11 .nil)))) (.e 9 (.e 8 (.e 10 (.e 11 .nil))))))))))))) (by kernel_rfl) (by intro c a d v w h; cases d <;> first | exact h | exact hQ h) (by kernel_rfl) H ?_ (fun key1 w3 H2 => ?_); rotate_left 2; (revert w3; intro w2 H))
   | (guard_target = Key 1 _; refine ⟨?_⟩; intro nb8 nb9 w2 H)
   | (guard_target = Code.wp _ (Code.region 4 _ true) _ _ _; replace H:Own _ _ _ (Res.cells b4 _ :: _) := aF; replace H:Own _ _ _ (Res.cells b3 _ :: _) := aF; refine region_treeC 4 2 (G := True) (.q 0 (.q 1 (.e 2 (.e 3 .nil)))) (by kernel_rfl) (by intro c a d v w h; cases d <;> first | exact h | exact hQ h) (by kernel_rfl) H ⟨trivial⟩ (fun _ w3 H2 => ?_); (clear H; (try clear w2); revert w3; intro w2 H); simp only [List.drop_succ_cons, List.drop_zero])
   | (go_at_call 29; (with_reducible refine (h3 _).mono ?_); rintro e w3 ⟨rfl, hb⟩; replace H := H.ext hb; clear hb; dsimp only; (skip))
   | (guard_target = wpList _ _ _ (_ :: _) _ _; (first | (guard_target = wpList _ _ _ (Oper.mk _ (.load _ _) _ _ _ _ :: _) _ _; refine BigFrame.wpList_want rfl (fun K hK => ?_); (refine o_loadNC (row := ?_) rfl rfl H ?_ ?_ ?_ (hK _ _ ?_); rotate_left 1; (repeat first | exact .head _ | apply List.Mem.tail); (focus (intro _; simp; done)); (focus (intro _; simp; done))); clear hK K) | ((first | (guard_target = wpList _ _ _ (Oper.mk _ (.alloc _) _ _ _ _ :: _) _ _; refine BigFrame.wpList_want rfl (fun K hK => ?_); refine o_alloc (z := ?_) rfl ?_ H rfl (fun w3 b2 he H2 => hK _ _ ?_); rotate_left 1; (focus (intro _; simp; with_reducible exact rfl))) | (guard_target = wpList _ _ _ (Oper.mk _ (.box _ _) _ _ _ _ :: _) _ _; refine BigFrame.wpList_want rfl (fun K hK => ?_); refine o_box rfl H rfl (fun w3 b2 he H2 => hK _ _ ?_))); clear hK K he; clear H; (try clear w2); revert w3; intro w2 H; simp [Act.eval, Value.cells, setL, List.getD] at H; (first | (clear tk0; rename Nat => b1) | (clear tk1; rename Nat => b2) | (clear tk2; rename Nat => b3) | (clear tk3; rename Nat => b4)))); simp only [Act.put, List.setIfInBounds_toArray, List.set_cons_succ, List.set_cons_zero])
   | (guard_target = wpTreeC _ _ _ _ _ _ _; first | (guard_target = wpTreeC _ _ _ (Tr.e _ Tr.nil) _ _ _; refine treeC_last (by decide +kernel) H rfl rfl (fun w3 H2 K hK => ?_); clear H; (try clear w2); (revert w3; intro w2 H); simp only [List.getElem_toArray, List.getElem_cons_succ, List.getElem_cons_zero]; (guard_target = Oper.wp _ (Oper.mk _ (.store _ _ _) _ _ _ _) _ _ _ _; refine o_store (l' := ?_) (row := ?_) rfl rfl H rfl ?_ ?_ ?_ ?_ (fun w3 H2 => hK _ _ ?_); rotate_left 2; (first | exact r0 | exact r1); (focus (intro _; simp [Act.eval, Value.cells]; done)); (focus (simp [Act.eval, Value.cells]; done)); (exact rfl); clear hK K; clear H; (try clear w2); revert w3; intro w2 H; simp [Act.eval, Value.cells, setL, List.getD] at H); simp only [Act.put, List.setIfInBounds_toArray, List.set_cons_succ, List.set_cons_zero]) | (guard_target = wpTreeC _ _ _ (Tr.q _ _) _ _ _; first | (refine treeC_quiet ⟨_, H, by repeat first | exact .here | apply Suf.there⟩ rfl rfl rfl (fun K hK => ?_); simp only [List.getElem_toArray, List.getElem_cons_succ, List.getElem_cons_zero]; first | (guard_target = Oper.quiet _ (Oper.mk _ (.load _ _) _ _ _ _) _ _ _; (first | (refine q_loadC (v := ?_) (row := ?_) rfl rfl ?_ ?_ ?_ (hK _ ?_); rotate_left 2; (repeat first | exact .head _ | apply List.Mem.tail); (exact rfl); (focus (intro _; simp; done))) | (refine q_loadNC (row := ?_) rfl rfl ?_ ?_ ?_ (hK _ ?_); rotate_left 1; (repeat first | exact .head _ | apply List.Mem.tail); (focus (intro _; simp; done)); (focus (intro _; simp; done)))); clear hK K; simp only [Act.put, List.setIfInBounds_toArray, List.set_cons_succ, List.set_cons_zero]) | (go_big_quiet_op; (try refine ⟨_, fun _ _ => rfl, ?_⟩); refine hK _ ?_; clear hK K)) | (refine treeC_call (v := ?_) ⟨_, H, by repeat first | exact .here | apply Suf.there⟩ rfl rfl (fun w3 H K hK => ?_) ?_; rotate_left 1; (focus (simp only [List.getElem_toArray, List.getElem_cons_succ, List.getElem_cons_zero]; first | (go_big_op; first | exact hK _ (Ext.refl _) | (go_at_call 22; (with_reducible refine (h1 _ _ (aD f0)).mono ?_); rintro e w3 ⟨rfl, hb⟩; dsimp only; first | exact hK _ hb | exact hK _ (Ext.refl _)) | (go_at_call 22; (with_reducible refine (h2 _ _ (aD f0)).mono ?_); rintro e w3 ⟨rfl, hb⟩; dsimp only; first | exact hK _ hb | exact hK _ (Ext.refl _)) | (go_at_call 29; (with_reducible refine (h3 _).mono ?_); rintro e w3 ⟨rfl, hb⟩; dsimp only; first | exact hK _ hb | exact hK _ (Ext.refl _))))); simp only [List.getElem_toArray, List.getElem_cons_succ, List.getElem_cons_zero, Act.put, List.setIfInBounds_toArray, List.set_cons_succ, List.set_cons_zero]) | (refine treeC_skip ⟨_, H, by repeat first | exact .here | apply Suf.there⟩ rfl rfl ?_; simp only [List.getElem_toArray, List.getElem_cons_succ, List.getElem_cons_zero, Act.put, List.setIfInBounds_toArray, List.set_cons_succ, List.set_cons_zero])) | (guard_target = wpTreeC _ _ _ (Tr.e _ _) _ _ _; (first | (guard_target = wpTreeC _ _ _ (Tr.e 8 _) _ _ _; refine treeC_one H rfl rfl (fun w3 H2 K hK => ?_); clear H; (try clear w2); (revert w3; intro w2 H); simp only [List.getElem_toArray, List.getElem_cons_succ, List.getElem_cons_zero]; ((guard_target = Oper.wp _ (Oper.mk _ (.alloc _) _ _ _ _) _ _ _ _; refine o_alloc (z := ?_) rfl ?_ H rfl (fun w3 b2 he H2 => hK _ _ ⟨_, H2, ?_⟩ ?_); rotate_left 1; (focus (intro _; simp; with_reducible exact rfl))); (guard_target = Suf _ _; repeat first | exact .here | apply Suf.there); clear hK K he; clear H; (try clear w2); revert w3; intro w2 H; simp [Act.eval, Value.cells, setL, List.getD] at H); simp only [Act.put, List.setIfInBounds_toArray, List.set_cons_succ, List.set_cons_zero]; rename Nat => nb8) | (guard_target = wpTreeC _ _ _ (Tr.e 9 _) _ _ _; refine treeC_one H rfl rfl (fun w3 H2 K hK => ?_); clear H; (try clear w2); (revert w3; intro w2 H); simp only [List.getElem_toArray, List.getElem_cons_succ, List.getElem_cons_zero]; ((guard_target = Oper.wp _ (Oper.mk _ (.alloc _) _ _ _ _) _ _ _ _; refine o_alloc (z := ?_) rfl ?_ H rfl (fun w3 b2 he H2 => hK _ _ ⟨_, H2, ?_⟩ ?_); rotate_left 1; (focus (intro _; simp; with_reducible exact rfl))); (guard_target = Suf _ _; repeat first | exact .here | apply Suf.there); clear hK K he; clear H; (try clear w2); revert w3; intro w2 H; simp [Act.eval, Value.cells, setL, List.getD] at H); simp only [Act.put, List.setIfInBounds_toArray, List.set_cons_succ, List.set_cons_zero]; rename Nat => nb9))) | (guard_target = wpTreeC _ _ _ (Tr.both _ _) _ _ _; refine treeC_both ?_ ?_) | (guard_target = wpTreeC _ _ _ (Tr.e _ _) _ _ _; first | (refine treeC_one H rfl rfl (fun w3 H2 K hK => ?_); clear H; (try clear w2); (revert w3; intro w2 H); simp only [List.getElem_toArray, List.getElem_cons_succ, List.getElem_cons_zero]; first | ((guard_target = Oper.wp _ (Oper.mk _ (.store _ _ _) _ _ _ _) _ _ _ _; refine o_store (l' := ?_) (row := ?_) rfl rfl H rfl ?_ ?_ ?_ ?_ (fun w3 H2 => hK _ _ ⟨_, H2, ?_⟩ ?_); rotate_left 2; (first | exact r0 | exact r1); (focus (intro _; simp [Act.eval, Value.cells]; done)); (focus (simp [Act.eval, Value.cells]; done)); (exact rfl); (guard_target = Suf _ _; repeat first | exact .here | apply Suf.there); clear hK K; clear H; (try clear w2); revert w3; intro w2 H; simp [Act.eval, Value.cells, setL, List.getD] at H); simp only [Act.put, List.setIfInBounds_toArray, List.set_cons_succ, List.set_cons_zero]) | (go_big_op; (first | fail))) | (refine treeC_one_skip (fun w3 hx => ⟨_, H.ext hx, by repeat first | exact .here | apply Suf.there⟩) rfl rfl (fun w3 hx => ?_); replace H := H.ext hx; clear hx; (try clear w2); revert w3; intro w2 H; simp only [List.getElem_toArray, List.getElem_cons_succ, List.getElem_cons_zero, Act.put, List.setIfInBounds_toArray, List.set_cons_succ, List.set_cons_zero])) | (refine treeC_nil H (fun w3 H2 => ?_); clear H; (try clear w2); revert w3; intro w2 H; (first | replace H : Own _ _ _ (Res.cells nb9 _ :: _) := H | replace H : Own _ _ _ (Res.cells nb9 _ :: _) := H.front1 | replace H : Own _ _ _ (Res.cells nb9 _ :: _) := H.front3); (first | replace H : Own _ _ _ (Res.cells nb8 _ :: _) := H.front1 | replace H : Own _ _ _ (Res.cells nb8 _ :: _) := H.front3); revert w2; revert nb9; revert nb8; exact key1.out) | (guard_target = wpTreeC _ _ _ Tr.nil _ _ _; refine treeC_nil H (fun w3 H2 => ?_); clear H; (try clear w2); revert w3; intro w2 H)))
  have hr1 := H.loadVarN (P := Tryz.prog) (ty := 28) (b := b3) (by exact m0) (by simp) (by simp)
  have hr2 := H.loadVarN (P := Tryz.prog) (ty := 28) (b := b4) (by exact m1) (by simp) (by simp)
  exact bodyPost_ret (v := .tuple #[pV ax ay, pV bx b_y]) (by simp [results, Tryz.results27, asAddr, hr1, hr2]) rfl ⟨rfl, H.below⟩
 ·simp only [if_true]
  go_enter Tryz.func27, Tryz.ntmps27
  have tk0 : True := trivial
  have tk1 : True := trivial
  have tk2 : True := trivial
  have tk3 : True := trivial
  go_wp2_with (first
   | (guard_target = Code.wp _ (Code.region 1 _ true) _ _ _; refine region_treeC0 1 (G := ?_) (.q 0 (.q 1 (.q 2 (.q 3 (.q 4 (.q 5 (.q 6 (.q 7 (.both (.e 8 (.e 9 (.e 10 (.e 11 .nil)))) (.e 9 (.e 8 (.e 10 (.e 11 .nil))))))))))))) (by kernel_rfl) (by intro c a d v w h; cases d <;> first | exact h | exact hQ h) (by kernel_rfl) H ?_ (fun key1 w3 H2 => ?_); rotate_left 2; (revert w3; intro w2 H))
   | (guard_target = Key 1 _; refine ⟨?_⟩; intro nb8 nb9 w2 H)
   | (guard_target = Code.wp _ (Code.region 3 _ true) _ _ _; replace H:Own _ _ _ (Res.cells b4 _ :: _) := aF; replace H:Own _ _ _ (Res.cells b3 _ :: _) := aF; refine region_treeC 3 2 (G := True) (.q 0 (.q 1 (.e 2 (.e 3 .nil)))) (by kernel_rfl) (by intro c a d v w h; cases d <;> first | exact h | exact hQ h) (by kernel_rfl) H ⟨trivial⟩ (fun _ w3 H2 => ?_); (clear H; (try clear w2); revert w3; intro w2 H); simp only [List.drop_succ_cons, List.drop_zero])
   | (go_at_call 29; (with_reducible refine (h3 _).mono ?_); rintro e w3 ⟨rfl, hb⟩; replace H := H.ext hb; clear hb; dsimp only; (skip))
   | (guard_target = wpList _ _ _ (_ :: _) _ _; (first | (guard_target = wpList _ _ _ (Oper.mk _ (.load _ _) _ _ _ _ :: _) _ _; refine BigFrame.wpList_want rfl (fun K hK => ?_); (refine o_loadNC (row := ?_) rfl rfl H ?_ ?_ ?_ (hK _ _ ?_); rotate_left 1; (repeat first | exact .head _ | apply List.Mem.tail); (focus (intro _; simp; done)); (focus (intro _; simp; done))); clear hK K) | ((first | (guard_target = wpList _ _ _ (Oper.mk _ (.alloc _) _ _ _ _ :: _) _ _; refine BigFrame.wpList_want rfl (fun K hK => ?_); refine o_alloc (z := ?_) rfl ?_ H rfl (fun w3 b2 he H2 => hK _ _ ?_); rotate_left 1; (focus (intro _; simp; with_reducible exact rfl))) | (guard_target = wpList _ _ _ (Oper.mk _ (.box _ _) _ _ _ _ :: _) _ _; refine BigFrame.wpList_want rfl (fun K hK => ?_); refine o_box rfl H rfl (fun w3 b2 he H2 => hK _ _ ?_))); clear hK K he; clear H; (try clear w2); revert w3; intro w2 H; simp [Act.eval, Value.cells, setL, List.getD] at H; (first | (clear tk0; rename Nat => b1) | (clear tk1; rename Nat => b2) | (clear tk2; rename Nat => b3) | (clear tk3; rename Nat => b4)))); simp only [Act.put, List.setIfInBounds_toArray, List.set_cons_succ, List.set_cons_zero])
   | (guard_target = wpTreeC _ _ _ _ _ _ _; first | (guard_target = wpTreeC _ _ _ (Tr.e _ Tr.nil) _ _ _; refine treeC_last (by decide +kernel) H rfl rfl (fun w3 H2 K hK => ?_); clear H; (try clear w2); (revert w3; intro w2 H); simp only [List.getElem_toArray, List.getElem_cons_succ, List.getElem_cons_zero]; (guard_target = Oper.wp _ (Oper.mk _ (.store _ _ _) _ _ _ _) _ _ _ _; refine o_store (l' := ?_) (row := ?_) rfl rfl H rfl ?_ ?_ ?_ ?_ (fun w3 H2 => hK _ _ ?_); rotate_left 2; (first | exact r0 | exact r1); (focus (intro _; simp [Act.eval, Value.cells]; done)); (focus (simp [Act.eval, Value.cells]; done)); (exact rfl); clear hK K; clear H; (try clear w2); revert w3; intro w2 H; simp [Act.eval, Value.cells, setL, List.getD] at H); simp only [Act.put, List.setIfInBounds_toArray, List.set_cons_succ, List.set_cons_zero]) | (guard_target = wpTreeC _ _ _ (Tr.q _ _) _ _ _; first | (refine treeC_quiet ⟨_, H, by repeat first | exact .here | apply Suf.there⟩ rfl rfl rfl (fun K hK => ?_); simp only [List.getElem_toArray, List.getElem_cons_succ, List.getElem_cons_zero]; first | (guard_target = Oper.quiet _ (Oper.mk _ (.load _ _) _ _ _ _) _ _ _; (first | (refine q_loadC (v := ?_) (row := ?_) rfl rfl ?_ ?_ ?_ (hK _ ?_); rotate_left 2; (repeat first | exact .head _ | apply List.Mem.tail); (exact rfl); (focus (intro _; simp; done))) | (refine q_loadNC (row := ?_) rfl rfl ?_ ?_ ?_ (hK _ ?_); rotate_left 1; (repeat first | exact .head _ | apply List.Mem.tail); (focus (intro _; simp; done)); (focus (intro _; simp; done)))); clear hK K; simp only [Act.put, List.setIfInBounds_toArray, List.set_cons_succ, List.set_cons_zero]) | (go_big_quiet_op; (try refine ⟨_, fun _ _ => rfl, ?_⟩); refine hK _ ?_; clear hK K)) | (refine treeC_call (v := ?_) ⟨_, H, by repeat first | exact .here | apply Suf.there⟩ rfl rfl (fun w3 H K hK => ?_) ?_; rotate_left 1; (focus (simp only [List.getElem_toArray, List.getElem_cons_succ, List.getElem_cons_zero]; first | (go_big_op; first | exact hK _ (Ext.refl _) | (go_at_call 22; (with_reducible refine (h1 _ _ (aD f0)).mono ?_); rintro e w3 ⟨rfl, hb⟩; dsimp only; first | exact hK _ hb | exact hK _ (Ext.refl _)) | (go_at_call 22; (with_reducible refine (h2 _ _ (aD f0)).mono ?_); rintro e w3 ⟨rfl, hb⟩; dsimp only; first | exact hK _ hb | exact hK _ (Ext.refl _)) | (go_at_call 29; (with_reducible refine (h3 _).mono ?_); rintro e w3 ⟨rfl, hb⟩; dsimp only; first | exact hK _ hb | exact hK _ (Ext.refl _))))); simp only [List.getElem_toArray, List.getElem_cons_succ, List.getElem_cons_zero, Act.put, List.setIfInBounds_toArray, List.set_cons_succ, List.set_cons_zero]) | (refine treeC_skip ⟨_, H, by repeat first | exact .here | apply Suf.there⟩ rfl rfl ?_; simp only [List.getElem_toArray, List.getElem_cons_succ, List.getElem_cons_zero, Act.put, List.setIfInBounds_toArray, List.set_cons_succ, List.set_cons_zero])) | (guard_target = wpTreeC _ _ _ (Tr.e _ _) _ _ _; (first | (guard_target = wpTreeC _ _ _ (Tr.e 8 _) _ _ _; refine treeC_one H rfl rfl (fun w3 H2 K hK => ?_); clear H; (try clear w2); (revert w3; intro w2 H); simp only [List.getElem_toArray, List.getElem_cons_succ, List.getElem_cons_zero]; ((guard_target = Oper.wp _ (Oper.mk _ (.alloc _) _ _ _ _) _ _ _ _; refine o_alloc (z := ?_) rfl ?_ H rfl (fun w3 b2 he H2 => hK _ _ ⟨_, H2, ?_⟩ ?_); rotate_left 1; (focus (intro _; simp; with_reducible exact rfl))); (guard_target = Suf _ _; repeat first | exact .here | apply Suf.there); clear hK K he; clear H; (try clear w2); revert w3; intro w2 H; simp [Act.eval, Value.cells, setL, List.getD] at H); simp only [Act.put, List.setIfInBounds_toArray, List.set_cons_succ, List.set_cons_zero]; rename Nat => nb8) | (guard_target = wpTreeC _ _ _ (Tr.e 9 _) _ _ _; refine treeC_one H rfl rfl (fun w3 H2 K hK => ?_); clear H; (try clear w2); (revert w3; intro w2 H); simp only [List.getElem_toArray, List.getElem_cons_succ, List.getElem_cons_zero]; ((guard_target = Oper.wp _ (Oper.mk _ (.alloc _) _ _ _ _) _ _ _ _; refine o_alloc (z := ?_) rfl ?_ H rfl (fun w3 b2 he H2 => hK _ _ ⟨_, H2, ?_⟩ ?_); rotate_left 1; (focus (intro _; simp; with_reducible exact rfl))); (guard_target = Suf _ _; repeat first | exact .here | apply Suf.there); clear hK K he; clear H; (try clear w2); revert w3; intro w2 H; simp [Act.eval, Value.cells, setL, List.getD] at H); simp only [Act.put, List.setIfInBounds_toArray, List.set_cons_succ, List.set_cons_zero]; rename Nat => nb9))) | (guard_target = wpTreeC _ _ _ (Tr.both _ _) _ _ _; refine treeC_both ?_ ?_) | (guard_target = wpTreeC _ _ _ (Tr.e _ _) _ _ _; first | (refine treeC_one H rfl rfl (fun w3 H2 K hK => ?_); clear H; (try clear w2); (revert w3; intro w2 H); simp only [List.getElem_toArray, List.getElem_cons_succ, List.getElem_cons_zero]; first | ((guard_target = Oper.wp _ (Oper.mk _ (.store _ _ _) _ _ _ _) _ _ _ _; refine o_store (l' := ?_) (row := ?_) rfl rfl H rfl ?_ ?_ ?_ ?_ (fun w3 H2 => hK _ _ ⟨_, H2, ?_⟩ ?_); rotate_left 2; (first | exact r0 | exact r1); (focus (intro _; simp [Act.eval, Value.cells]; done)); (focus (simp [Act.eval, Value.cells]; done)); (exact rfl); (guard_target = Suf _ _; repeat first | exact .here | apply Suf.there); clear hK K; clear H; (try clear w2); revert w3; intro w2 H; simp [Act.eval, Value.cells, setL, List.getD] at H); simp only [Act.put, List.setIfInBounds_toArray, List.set_cons_succ, List.set_cons_zero]) | (go_big_op; (first | fail))) | (refine treeC_one_skip (fun w3 hx => ⟨_, H.ext hx, by repeat first | exact .here | apply Suf.there⟩) rfl rfl (fun w3 hx => ?_); replace H := H.ext hx; clear hx; (try clear w2); revert w3; intro w2 H; simp only [List.getElem_toArray, List.getElem_cons_succ, List.getElem_cons_zero, Act.put, List.setIfInBounds_toArray, List.set_cons_succ, List.set_cons_zero])) | (refine treeC_nil H (fun w3 H2 => ?_); clear H; (try clear w2); revert w3; intro w2 H; (first | replace H : Own _ _ _ (Res.cells nb9 _ :: _) := H | replace H : Own _ _ _ (Res.cells nb9 _ :: _) := H.front1 | replace H : Own _ _ _ (Res.cells nb9 _ :: _) := H.front3); (first | replace H : Own _ _ _ (Res.cells nb8 _ :: _) := H.front1 | replace H : Own _ _ _ (Res.cells nb8 _ :: _) := H.front3); revert w2; revert nb9; revert nb8; exact key1.out) | (guard_target = wpTreeC _ _ _ Tr.nil _ _ _; refine treeC_nil H (fun w3 H2 => ?_); clear H; (try clear w2); revert w3; intro w2 H)))
  have hr1 := H.loadVarN (P := Tryz.prog) (ty := 28) (b := b3) (by exact m0) (by simp) (by simp)
  have hr2 := H.loadVarN (P := Tryz.prog) (ty := 28) (b := b4) (by exact m1) (by simp) (by simp)
  exact bodyPost_ret (v := .tuple #[pV bx b_y, pV ax ay]) (by simp [results, Tryz.results27, asAddr, hr1, hr2]) rfl ⟨rfl, H.below⟩
theorem ref21bg2 {P Q : Prop} (k : Q) (h : Hold Q → P := by (intro kk; (guard_target = wpList _ _ _ (Oper.mk _ (.load _ _) _ _ _ _ :: _) _ _; exact a3e9400a kk.out))) : P := h ⟨k⟩
theorem mk_lt {a b c d : Int} (hb : 0 < b) (hd : 0 < d) : (mkN a b * mkD c d < mkN c d * mkD a b ↔ a * d < c * b) ∧ (mkN a b * mkD c d = mkN c d * mkD a b ↔ a * d = c * b) := by
 obtain ⟨m1, m2, -⟩ := mk_spec (n := a) (d := b) (by omega)
 obtain ⟨n1, n2, -⟩ := mk_spec (n := c) (d := d) (by omega)
 generalize mkN a b = N at *
 generalize mkD a b = D at *
 generalize mkN c d = M at *
 generalize mkD c d = E at *
 have h1 : N * E * (b * d) = a * d * (D * E) := by grind
 have h2 : M * D * (b * d) = c * b * (D * E) := by grind
 have p1 : 0 < b * d := Int.mul_pos hb hd
 have p2 : 0 < D * E := Int.mul_pos m2 n2
 constructor
 ·rw [← Int.mul_lt_mul_right p1, h1, h2, Int.mul_lt_mul_right p2]
 ·rw [← Int.mul_eq_mul_right_iff (by omega : b * d ≠ 0), h1, h2, Int.mul_eq_mul_right_iff (by omega : D * E ≠ 0)]
theorem cmp_at {s t : Sg} {k : Int} (hs : s.a.x < s.b.x) (ht : t.a.x < t.b.x) :
  (cmpZW (atN s.a s.b k * atD t.a t.b k) (atN t.a t.b k * atD s.a s.b k) = 0 ∧ higherB s t k = if s.b = t.b then decide (turnZ s.a s.b t.a < 0) else decide (0 < turnZ s.a t.b s.b)) ∨
  ∃ z, cmpZW (atN s.a s.b k * atD t.a t.b k) (atN t.a t.b k * atD s.a s.b k) = z ∧ z ≠ 0 ∧ higherB s t k = decide (0 < z) := by
 have h := mk_lt (a := atP_ s.a s.b k) (b := s.b.x - s.a.x) (c := atP_ t.a t.b k) (d := t.b.x - t.a.x) (by omega) (by omega)
 have h' := mk_lt (a := atP_ t.a t.b k) (b := t.b.x - t.a.x) (c := atP_ s.a s.b k) (d := s.b.x - s.a.x) (by omega) (by omega)
 unfold atN atD
 obtain ⟨P, hP⟩ : ∃ P, mkN (atP_ s.a s.b k) (s.b.x - s.a.x) * mkD (atP_ t.a t.b k) (t.b.x - t.a.x) = P := ⟨_, rfl⟩
 obtain ⟨Q, hQ⟩ : ∃ P, mkN (atP_ t.a t.b k) (t.b.x - t.a.x) * mkD (atP_ s.a s.b k) (s.b.x - s.a.x) = P := ⟨_, rfl⟩
 rw [hP, hQ] at h h' ⊢
 have e1 : numY s k = atP_ s.a s.b k := rfl
 have e2 : numY t k = atP_ t.a t.b k := rfl
 have e3 : denY s = s.b.x - s.a.x := rfl
 have e4 : denY t = t.b.x - t.a.x := rfl
 unfold higherB cmpZW
 rw [e1, e2, e3, e4]
 by_cases g : P = Q
 ·have := h.2.1 g
  rw [if_pos this, if_neg (by omega), if_neg (by omega)]
  exact .inl ⟨rfl, rfl⟩
 ·have gn : ¬ (atP_ s.a s.b k * (t.b.x - t.a.x) = atP_ t.a t.b k * (s.b.x - s.a.x)) := fun e => g (h.2.2 e)
  rw [if_neg gn]
  right
  by_cases l : P < Q
  ·refine ⟨-1, by rw [if_pos l], by omega, ?_⟩
   have := h.1.1 l
   rw [decide_eq_decide]; omega
  ·have l2 : Q < P := by omega
   refine ⟨1, by rw [if_neg l, if_pos l2], by omega, ?_⟩
   have := h'.1.1 l2
   rw [decide_eq_decide]; omega
theorem at_md {l r : Pt} {k : Int} (il : InP l) (ir : InP r) (hk : l.x ≤ k ∧ k ≤ r.x) (hl : l.x < r.x) : Md (atN l r k) ∧ Md (atD l r k) := by
 unfold InP at il ir
 have hd : r.x - l.x ≠ 0 := by omega
 have h1 := mkN_abs (atP_ l r k) hd
 have h2 := mkD_abs (atP_ l r k) hd
 have m1 := mul_bound (u := k - l.x) (v := r.y - l.y) (B := 536870912) (C := 536870912) (by omega) (by omega) (by omega) (by omega)
 have m2 := mul_bound (u := l.y) (v := r.x - l.x) (B := 536870912) (C := 536870912) (by omega) (by omega) (by omega) (by omega)
 have e : atP_ l r k = (k - l.x) * (r.y - l.y) + l.y * (r.x - l.x) := rfl
 generalize (k - l.x) * (r.y - l.y) = u at *
 generalize l.y * (r.x - l.x) = v at *
 unfold atN atD Md
 omega
set_option maxRecDepth 200000 in
set_option maxHeartbeats 32000000 in
theorem refHigher_any (vs : List Vt) (A A2 : Option Addr) (n m : Nat) (c c2 : Nat) (F : Nat → Prop) (i1 x1 y1 i2 x2 y2 px py : Int) (w : World) (hn : n = vs.length) (hs : Sl F w A (vR vs)) (hl : n ≤ 1000000)
  (hx1 : (vs.find? fun v => v.id == x1).isSome = true) (hy1 : (vs.find? fun v => v.id == y1).isSome = true) (hx2 : (vs.find? fun v => v.id == x2).isSome = true) (hy2 : (vs.find? fun v => v.id == y2).isSome = true)
  (a1 : InP (segZ vs x1 y1).a) (b1 : InP (segZ vs x1 y1).b) (a2 : InP (segZ vs x2 y2).a) (b2 : InP (segZ vs x2 y2).b) (ip : -268435456 ≤ px ∧ px ≤ 268435456)
  (l1 : (segZ vs x1 y1).a.x < (segZ vs x1 y1).b.x) (l2 : (segZ vs x2 y2).a.x < (segZ vs x2 y2).b.x) (k1 : (segZ vs x1 y1).a.x ≤ px ∧ px ≤ (segZ vs x1 y1).b.x) (k2 : (segZ vs x2 y2).a.x ≤ px ∧ px ≤ (segZ vs x2 y2).b.x) :
  Calls Tryz.prog 31 #[.agg #[.slice A n c, .slice A2 m c2], v3 i1 x1 y1, v3 i2 x2 y2, pV px py] w fun e w' => e = .returned (.bool (higherB (segZ vs x1 y1) (segZ vs x2 y2) px)) ∧ Below w.heap.size w w' := by
 obtain ⟨b0, o0, H, f0⟩ := (Own.start w).addSl (hs.ro (by rfl))
 clear hs
 have hL1 := fun F w h => refLine_any vs A A2 n m c c2 F i1 x1 y1 w hn h hl hx1 hy1
 have hL2 := fun F w h => refLine_any vs A A2 n m c c2 F i2 x2 y2 w hn h hl hx2 hy2
 obtain ⟨⟨⟨ax, ay⟩, ⟨bx, b_y⟩⟩, hz1⟩ : ∃ s, segZ vs x1 y1 = s := ⟨_, rfl⟩
 obtain ⟨⟨⟨cx, cy⟩, ⟨dx, dy⟩⟩, hz2⟩ : ∃ s, segZ vs x2 y2 = s := ⟨_, rfl⟩
 rw [hz1] at hL1 a1 b1 l1 k1 ⊢
 rw [hz2] at hL2 a2 b2 l2 k2 ⊢
 simp only at hL1 hL2 a1 b1 a2 b2 l1 l2 k1 k2
 have hX := frac_one px (by omega) (by omega)
 have m1 := at_md a1 b1 k1 l1
 have m2 := at_md a2 b2 k2 l2
 have hA1 := refAtR_any ax ay bx b_y px a1.1 a1.2 b1.1 b1.2 k1 l1
 have hA2 := refAtR_any cx cy dx dy px a2.1 a2.2 b2.1 b2.2 k2 l2
 have hC := ref4Cmp_any _ _ _ _ m1.1.fits m1.2.fits m2.1.fits m2.2.fits
 have hT1 := refTurn_any ax ay bx b_y cx cy a1 b1 a2
 have hT2 := refTurn_any ax ay dx dy bx b_y a1 b2 b1
 have eqp := eq_pt bx b_y dx dy
 rw [← pt_eq] at eqp
 have hc := cmp_at (s := ⟨⟨ax, ay⟩, ⟨bx, b_y⟩⟩) (t := ⟨⟨cx, cy⟩, ⟨dx, dy⟩⟩) (k := px) l1 l2
 simp only at hc
 generalize atN ⟨ax, ay⟩ ⟨bx, b_y⟩ px = p1 at *
 generalize atD ⟨ax, ay⟩ ⟨bx, b_y⟩ px = q1 at *
 generalize atN ⟨cx, cy⟩ ⟨dx, dy⟩ px = p2 at *
 generalize atD ⟨cx, cy⟩ ⟨dx, dy⟩ px = q2 at *
 generalize cmpZW (p1 * q2) (p2 * q1) = z at *
 generalize turnZ ⟨ax, ay⟩ ⟨bx, b_y⟩ ⟨cx, cy⟩ = t1 at *
 generalize turnZ ⟨ax, ay⟩ ⟨dx, dy⟩ ⟨bx, b_y⟩ = t2 at *
 generalize higherB _ _ px = hb0 at *
 clear m1 m2 a1 b1 a2 b2 ip l1 l2 k1 k2 hz1 hz2 hx1 hy1 hx2 hy2 hl hn
 obtain ⟨u, hu⟩ : ∃ v, decide ((⟨bx, b_y⟩ : Pt) = ⟨dx, dy⟩) = v := ⟨_, rfl⟩
 rw [hu] at eqp
 have hw : (z = 0 ∧ hb0 = if u = true then decide (t1 < 0) else decide (0 < t2)) ∨ ((z == 0) = false ∧ hb0 = decide (0 < z)) := by
  rcases hc with ⟨h1, h2⟩ | ⟨z', rfl, h0, h2⟩
  ·left
   refine ⟨h1, h2.trans ?_⟩
   rw [← hu]
   by_cases g : (⟨bx, b_y⟩ : Pt) = ⟨dx, dy⟩ <;> simp [g]
  ·exact .inr ⟨by simpa using h0, h2⟩
 clear hc hu
 have hw2 : (z = 0 ∧ u = true ∧ hb0 = decide (t1 < 0)) ∨ (z = 0 ∧ u = false ∧ hb0 = decide (0 < t2)) ∨ ((z == 0) = false ∧ hb0 = decide (0 < z)) := by
  rcases hw with ⟨h1, h2⟩ | h
  ·cases u
   ·exact .inr (.inl ⟨h1, rfl, by simpa using h2⟩)
   ·exact .inl ⟨h1, rfl, by simpa using h2⟩
  ·exact .inr (.inr h)
 clear hw
 rcases hw2 with ⟨rfl, rfl, rfl⟩ | ⟨rfl, rfl, rfl⟩ | ⟨hz0, rfl⟩
 all_goals
  go_enter Tryz.func31, Tryz.ntmps31
  have tk0 : True := trivial
  have tk1 : True := trivial
  have tk2 : True := trivial
  have tk3 : True := trivial
  have tk4 : True := trivial
  have tk5 : True := trivial
  have tk6 : True := trivial
  have tk7 : True := trivial
  have tk8 : True := trivial
  have tk9 : True := trivial
  have tk10 : True := trivial
  have tk11 : True := trivial
  go_wp2_with (first
   | (go_at_call 27; (with_reducible refine (hL1 _ _ (aD f0)).mono ?_); rintro e w3 ⟨rfl, hb⟩; replace H := H.ext hb; clear hb; dsimp only)
   | (go_at_call 27; (with_reducible refine (hL2 _ _ (aD f0)).mono ?_); rintro e w3 ⟨rfl, hb⟩; replace H := H.ext hb; clear hb; dsimp only)
   | (go_at_call 49; (with_reducible refine (hX _).mono ?_); rintro e w3 ⟨rfl, hb⟩; replace H := H.ext hb; clear hb; dsimp only)
   | (go_at_call 50; (with_reducible refine (hA1 _).mono ?_); rintro e w3 ⟨rfl, hb⟩; replace H := H.ext hb; clear hb; dsimp only)
   | (go_at_call 50; (with_reducible refine (hA2 _).mono ?_); rintro e w3 ⟨rfl, hb⟩; replace H := H.ext hb; clear hb; dsimp only)
   | (go_at_call 51; (with_reducible refine (hC _).mono ?_); rintro e w3 ⟨rfl, hb⟩; replace H := H.ext hb; clear hb; dsimp only)
   | (go_at_call 30; (with_reducible refine (hT1 _).mono ?_); rintro e w3 ⟨rfl, hb⟩; replace H := H.ext hb; clear hb; dsimp only)
   | (go_at_call 30; (with_reducible refine (hT2 _).mono ?_); rintro e w3 ⟨rfl, hb⟩; replace H := H.ext hb; clear hb; dsimp only)
   | (guard_target = wpList _ _ _ (_ :: _) _ _; (first | (refine ref21bg2 ?_) | (refine ae4234ec ?_; clear H; (try clear w2); intro w2 H) | (refine a9e98dd6 ?_; intro b2; clear H; (try clear w2); intro w2 H; (first | (clear tk0; rename Nat => c1) | (clear tk1; rename Nat => c2) | (clear tk2; rename Nat => c3) | (clear tk3; rename Nat => c4) | (clear tk4; rename Nat => c5) | (clear tk5; rename Nat => c6) | (clear tk6; rename Nat => c7) | (clear tk7; rename Nat => c8) | (clear tk8; rename Nat => c9) | (clear tk9; rename Nat => c10) | (clear tk10; rename Nat => c11))))))
  go_ret
  exact ⟨rfl, H.below⟩
end Go.Proofs.YtlhmjhildlnokaaGreat
namespace Go.Proofs.YtlhmjhildlnokaaGreat
set_option linter.unusedVariables false
set_option linter.unusedSimpArgs false
open Go.RowKit Go.Sort Go.Shelf
variable {vs : List Vt} {es : List Eg} {S : List (Int × Sg)} {N : List Nd} {P : List Pc} {X : IxS} {os : List Int} {q : Pt}
def sgE (vs : List Vt) (e : Eg) : Sg := segZ vs e.a e.b
def endB (s : Sg) (q : Pt) : Bool := decide (s.a = q) || decide (s.b = q)
def candB (s : Sg) (q : Pt) : Bool := lessB s.a q && (lessB q s.b && decide (0 < turnZ s.a s.b q))
def onS (vs : List Vt) (es : List Eg) (q : Pt) : Nat → Int
 | 0 => 0
 | j + 1 => match es[j]? with | some e => if onR q (sgE vs e).a (sgE vs e).b = true then e.id else onS vs es q j | none => onS vs es q j
def bestS (vs : List Vt) (es : List Eg) (q : Pt) : Nat → Option Nat
 | 0 => none
 | j + 1 => match es[j]? with
  | some e => if candB (sgE vs e) q = true then (match bestS vs es q j with | none => some j | some k => match es[k]? with | some f => if higherB (sgE vs e) (sgE vs f) q.x = true then some j else some k | none => some k) else bestS vs es q j
  | none => bestS vs es q j
theorem cand_below (H : RightP vs es) {e : Eg} (he : e ∈ es) (iq : InP q) : candB (sgE vs e) q = true ↔ Below_ (sgE vs e) q := by
 have hh := seg_in H (id := e.id) (x := e.a) (y := e.b) he
 have ia : InP (sgE vs e).a := hh.1
 have ib : InP (sgE vs e).b := hh.2
 have hx : Xr (sgE vs e).a < Xr (sgE vs e).b := by
  have := seg_ends H he
  unfold sgE; rw [this]
  exact Xr_lt.2 (edge_in H he).2.2
 unfold candB
 rw [Bool.and_eq_true, Bool.and_eq_true, decide_eq_true_eq, less_X ia iq, less_X iq ib, ← turnB_in ia ib iq, (turn_sign (c := q) ia ib iq hx).1]
 constructor
 ·rintro ⟨h1, h2, h3⟩
  exact Below_.of ia ib iq ⟨h1, h2⟩ h3
 ·rintro ⟨_, sp, lt⟩
  exact ⟨sp.1, sp.2, lt⟩
def TopP (vs : List Vt) (es : List Eg) (q : Pt) (j : Nat) (o : Option Nat) : Prop :=
 match o with
 | none => ∀ k e, k < j → es[k]? = some e → candB (sgE vs e) q = false
 | some b => ∃ f, b < j ∧ es[b]? = some f ∧ candB (sgE vs f) q = true ∧ ∀ k e, k < j → es[k]? = some e → candB (sgE vs e) q = true → k = b ∨ (lnS (sgE vs e)).at (Xr q) < (lnS (sgE vs f)).at (Xr q)
theorem edge_ne (H : RightP vs es) {i j : Nat} {e f : Eg} (hi : es[i]? = some e) (hj : es[j]? = some f) (hne : i ≠ j) : (e.id, sgE vs e) ≠ (f.id, sgE vs f) := by
 intro h
 have h1 := congrArg Prod.fst h
 have hn := ids_nodup H
 exact hne ((List.getElem?_inj (l := es.map (·.id)) (by rw [List.length_map]; exact (List.getElem?_eq_some_iff.1 hi).1) hn).1 (by rw [List.getElem?_map, List.getElem?_map, hi, hj]; exact congrArg some h1))
theorem best_top (H : RightP vs es) (iq : InP q) (O : SOk (edgeL vs es)) : ∀ j, j ≤ es.length → TopP vs es q j (bestS vs es q j)
 | 0, _ => fun k e hk => absurd hk (by omega)
 | j + 1, hj => by
  have ih := best_top H iq O j (by omega)
  obtain ⟨e, he⟩ : ∃ e, es[j]? = some e := ⟨_, List.getElem?_eq_getElem (by omega)⟩
  have mem : ∀ {k : Nat} {f : Eg}, es[k]? = some f → (f.id, sgE vs f) ∈ edgeL vs es := fun h => List.mem_map.2 ⟨_, List.mem_of_getElem? h, rfl⟩
  unfold bestS
  rw [he]
  simp only
  by_cases hc : candB (sgE vs e) q = true
  ·rw [if_pos hc]
   have be := (cand_below H (List.mem_of_getElem? he) iq).1 hc
   cases hb : bestS vs es q j with
   | none =>
    rw [hb] at ih
    simp only
    refine ⟨e, by omega, he, hc, fun k f hk hf hcf => ?_⟩
    by_cases e1 : k = j
    ·exact .inl e1
    ·have := ih k f (by omega) hf
     rw [this] at hcf; cases hcf
   | some b =>
    rw [hb] at ih
    obtain ⟨f, h1, h2, h3, h4⟩ := ih
    simp only [h2]
    have bf := (cand_below H (List.mem_of_getElem? h2) iq).1 h3
    have hh := higher_iff O (mem he) (mem h2) (edge_ne H he h2 (by omega)) iq be bf
    by_cases hg : higherB (sgE vs e) (sgE vs f) q.x = true
    ·rw [if_pos hg]
     refine ⟨e, by omega, he, hc, fun k f' hk hf' hcf => ?_⟩
     by_cases e1 : k = j
     ·exact .inl e1
     ·right
      rcases h4 k f' (by omega) hf' hcf with rfl | h5
      ·rw [h2] at hf'
       injection hf' with hf'
       rw [← hf']; exact hh.1 hg
      ·have := hh.1 hg
       grind
    ·rw [if_neg hg]
     refine ⟨f, by omega, h2, h3, fun k f' hk hf' hcf => ?_⟩
     by_cases e1 : k = j
     ·subst e1
      rw [he] at hf'
      injection hf' with hf'
      subst hf'
      right
      have n1 : ¬ (lnS (sgE vs f)).at (Xr q) < (lnS (sgE vs e)).at (Xr q) := fun h => hg (hh.2 h)
      have n2 := O.sep _ (mem he) _ (mem h2) (edge_ne H he h2 (by omega)) (Xr q) be.sp bf.sp
      simp only at n2
      grind
     ·exact h4 k f' (by omega) hf' hcf
  ·rw [if_neg hc]
   have hc' : candB (sgE vs e) q = false := by cases h : candB (sgE vs e) q; rfl; exact absurd h hc
   cases hb : bestS vs es q j with
   | none =>
    rw [hb] at ih
    intro k f hk hf
    by_cases e1 : k = j
    ·subst e1
     rw [he] at hf
     injection hf with hf
     rw [← hf]; exact hc'
    ·exact ih k f (by omega) hf
   | some b =>
    rw [hb] at ih
    obtain ⟨f, h1, h2, h3, h4⟩ := ih
    refine ⟨f, by omega, h2, h3, fun k f' hk hf' hcf => ?_⟩
    by_cases e1 : k = j
    ·subst e1
     rw [he] at hf'
     injection hf' with hf'
     rw [← hf', hc'] at hcf; cases hcf
    ·exact h4 k f' (by omega) hf' hcf
theorem on_zero : ∀ {j : Nat}, (∀ k e, k < j → es[k]? = some e → onR q (sgE vs e).a (sgE vs e).b = false) → onS vs es q j = 0
 | 0, _ => rfl
 | j + 1, h => by
  unfold onS
  cases he : es[j]? with
  | none => exact on_zero fun k e hk => h k e (by omega)
  | some e =>
   simp only
   rw [h j e (by omega) he]
   simp only [Bool.false_eq_true, if_false]
   exact on_zero fun k e hk => h k e (by omega)
theorem on_one {i : Nat} {f : Eg} (hi : es[i]? = some f) (hf : onR q (sgE vs f).a (sgE vs f).b = true) : ∀ {j : Nat}, i < j → (∀ k e, k < j → es[k]? = some e → onR q (sgE vs e).a (sgE vs e).b = true → k = i) → onS vs es q j = f.id
 | 0, h, _ => absurd h (by omega)
 | j + 1, h, hu => by
  unfold onS
  by_cases e1 : i = j
  ·subst e1
   rw [hi]
   simp only
   rw [if_pos hf]
  ·cases he : es[j]? with
   | none => exact on_one hi hf (by omega) fun k e hk => hu k e (by omega)
   | some e =>
    simp only
    have : ¬ onR q (sgE vs e).a (sgE vs e).b = true := fun g => e1 (hu j e (by omega) he g).symm
    rw [if_neg this]
    exact on_one hi hf (by omega) fun k e hk => hu k e (by omega)
theorem on_line (H : RightP vs es) {e : Eg} (he : e ∈ es) (iq : InP q) : onR q (sgE vs e).a (sgE vs e).b = true ↔ (lnS (sgE vs e)).spans (Xr q) ∧ Yr q = (lnS (sgE vs e)).at (Xr q) := by
 have hh := seg_in H (id := e.id) (x := e.a) (y := e.b) he
 have ia : InP (sgE vs e).a := hh.1
 have ib : InP (sgE vs e).b := hh.2
 have hx : Xr (sgE vs e).a < Xr (sgE vs e).b := by
  have := seg_ends H he
  unfold sgE; rw [this]
  exact Xr_lt.2 (edge_in H he).2.2
 rw [← onL_onR]
 unfold onL
 rw [Bool.and_eq_true, decide_eq_true_eq, ← turnB_in ia ib iq, (turn_sign (c := q) ia ib iq hx).2.2]
 unfold betwB
 rw [Bool.or_eq_true, Bool.and_eq_true, Bool.and_eq_true, less_X ia iq, less_X iq ib, less_X ib iq, less_X iq ia]
 constructor
 ·rintro ⟨h1, h2 | h2⟩
  ·exact ⟨⟨h2.1, h2.2⟩, h1⟩
  ·grind
 ·rintro ⟨h1, h2⟩
  exact ⟨h2, .inl ⟨h1.1, h1.2⟩⟩
def refSpot (vs : List Vt) (es : List Eg) (q : Pt) : Int × Int :=
 if 0 < onS vs es q es.length then (onS vs es q es.length, 0) else match bestS vs es q es.length with | none => (0, 0) | some k => (0, ((es[k]?).map (·.id)).getD 0)
theorem edgeL_ok (H : RightP vs es) : SOk (edgeL vs es) := by
 refine OfPlan.ok H ⟨?_, fun q hq => ?_⟩
 ·unfold edgeL; rw [List.map_map]; exact ids_nodup H
 ·obtain ⟨e, he, rfl⟩ := List.mem_map.1 hq
  exact ⟨e, he, rfl⟩
theorem refSpot_on (H : RightP vs es) (iq : InP q) {id : Int} {sg : Sg} (hm : (id, sg) ∈ edgeL vs es) (sp : (lnS sg).spans (Xr q)) (ey : Yr q = (lnS sg).at (Xr q)) : refSpot vs es q = (id, 0) := by
 have O := edgeL_ok H
 obtain ⟨e, he, e1⟩ := List.mem_map.1 hm
 injection e1 with e1 e2
 subst e1 e2
 obtain ⟨i, hi⟩ := List.getElem?_of_mem he
 have hon := (on_line H he iq).2 ⟨sp, ey⟩
 have := on_one (vs := vs) hi hon (j := es.length) (List.getElem?_eq_some_iff.1 hi).1 fun k f hk hf hfo => by
  have g := (on_line H (List.mem_of_getElem? hf) iq).1 hfo
  by_cases e2 : k = i
  ·exact e2
  ·exact absurd (g.2.symm.trans ey) (O.sep _ (List.mem_map.2 ⟨f, List.mem_of_getElem? hf, rfl⟩) _ hm (edge_ne H hf hi e2) _ g.1 sp)
 unfold refSpot
 rw [this, if_pos (by have := (H.each e he).1; omega)]
theorem refSpot_below (H : RightP vs es) (I : BldI vs es os X) (Oo : OrdP es os) (iq : InP q) {i : Nat} {p : Pc} (h1 : X.P[i]? = some p) (h2 : p.g = false) (hI : InT (segsOf vs es os).reverse p.t (Xr q) (Yr q)) : refSpot vs es q = (0, p.t.bot) := by
 have O := edgeL_ok H
 have T := I.ti H
 have V := T.val i p h1 h2
 have hp := segs_perm H Oo
 have mem : ∀ {k : Nat} {f : Eg}, es[k]? = some f → (f.id, sgE vs f) ∈ (segsOf vs es os).reverse := fun h => hp.mem_iff.2 (List.mem_map.2 ⟨_, List.mem_of_getElem? h, rfl⟩)
 have z := on_zero (vs := vs) (es := es) (q := q) (j := es.length) fun k e hk he => by
  cases h : onR q (sgE vs e).a (sgE vs e).b
  ·rfl
  ·have g := (on_line H (List.mem_of_getElem? he) iq).1 h
   exact absurd (by rw [← g.2]; exact hI) (V.free _ (mem he) _ g.1)
 unfold refSpot
 rw [z, if_neg (by omega)]
 have tp := best_top H iq O es.length (Nat.le_refl _)
 have cap : ∀ {k : Nat} {e : Eg}, es[k]? = some e → candB (sgE vs e) q = true → p.t.bot ≠ 0 ∧ (lnS (sgE vs e)).at (Xr q) ≤ (botL (segsOf vs es os).reverse p.t).at (Xr q) := by
  intro k e he hc
  have b := (cand_below H (List.mem_of_getElem? he) iq).1 hc
  have f := V.free _ (mem he) _ b.sp
  have hi : p.t.top ≠ 0 → (lnS (sgE vs e)).at (Xr q) < (topL (segsOf vs es os).reverse p.t).at (Xr q) := fun h => by have := hI.hi h; have := b.lt; grind
  constructor
  ·intro h0
   exact f ⟨hI.ix, fun h => absurd h0 h, hi⟩
  ·by_cases g : (lnS (sgE vs e)).at (Xr q) ≤ (botL (segsOf vs es os).reverse p.t).at (Xr q)
   ·exact g
   ·exact absurd ⟨hI.ix, fun _ => by grind, hi⟩ f
 by_cases hb : p.t.bot = 0
 ·cases hB : bestS vs es q es.length with
  | none => rw [hb]
  | some k =>
   rw [hB] at tp
   obtain ⟨f, g1, g2, g3, _⟩ := tp
   exact absurd hb (cap g2 g3).1
 ·
  have hm := (V.bot hb).1
  have hm' := hp.mem_iff.1 hm
  obtain ⟨e, he, e1⟩ := List.mem_map.1 hm'
  injection e1 with e1 e2
  obtain ⟨j, hj⟩ := List.getElem?_of_mem he
  have eS : botL (segsOf vs es os).reverse p.t = lnS (sgE vs e) := by unfold botL; rw [← e2]; rfl
  have sp := V.botSp hb hI.ix
  have lo := hI.lo hb
  rw [eS] at sp lo
  have hh := seg_in H (id := e.id) (x := e.a) (y := e.b) he
  have hc := (cand_below H he iq).2 (Below_.of hh.1 hh.2 iq sp lo)
  cases hB : bestS vs es q es.length with
  | none =>
   rw [hB] at tp
   have := tp j e (List.getElem?_eq_some_iff.1 hj).1 hj
   rw [hc] at this; cases this
  | some k =>
   rw [hB] at tp
   obtain ⟨f, g1, g2, g3, g4⟩ := tp
   have : j = k := by
    rcases g4 j e (List.getElem?_eq_some_iff.1 hj).1 hj hc with h | h
    ·exact h
    ·have := (cap g2 g3).2
     rw [eS] at this
     exact absurd h (by grind)
   subst this
   rw [hj] at g2
   simp only [hj, Option.map_some, Option.getD_some, Prod.mk.injEq, true_and]
   exact e1
end Go.Proofs.YtlhmjhildlnokaaGreat
