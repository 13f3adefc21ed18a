/-
  Resources: more places; many rows that are read, as one resource. Nothing of the program stands here.
-/
import Derived.Test.YtlhmjhildlnokaaGreatMd6b25c4b
import Derived.Test.YtlhmjhildlnokaaGreatM586e9777
import Derived.Lib.Hide
import Derived.Deep.LoopGhost
import Derived.BigQuiet
import Derived.BigGuardPart
import Derived.BigCall
namespace Go.Proofs.YtlhmjhildlnokaaGreat
set_option linter.unusedVariables false
open Go.RowKit
theorem a000c48b {P Q : Prop} (k : Q) (h : Hold Q → P := by (intro kk; guard_target = wpTreeC _ _ _ (Tr.e _ _) _ _ _; (with_reducible refine treeC_one (o := ?_) H ?_ ?_ (fun w3 H2 K hK => ?_)); rotate_left 1; exact rfl; exact rfl; simp only [List.getElem_toArray, List.getElem_cons_succ, List.getElem_cons_zero]; guard_target = Oper.wp _ (Oper.mk _ (.load _ _) _ _ _ _) _ _ _ _; (first | ((with_reducible refine o_load (v := ?_) (r := ?_) (ty := ?_) (x := ?_) (b := ?_) (off := ?_) ?_ ?_ H2 ?_ ?_ ?_ (hK _ _ (aK H2) ?_)); rotate_left 6; exact rfl; exact rfl; (with_reducible assumption); (repeat first | exact .head _ | apply List.Mem.tail); (focus (intro _; simp [X0, X1, X2, X3]; done))) | ((with_reducible refine o_loadC (v := ?_) (row := ?_) (ty := ?_) (x := ?_) (b := ?_) (off := ?_) ?_ ?_ H2 ?_ ?_ ?_ (hK _ _ (aK H2) ?_)); rotate_left 6; exact rfl; exact rfl; (repeat first | exact .head _ | apply List.Mem.tail); (first | exact rfl | with_reducible assumption); (focus (intro _; simp [X0, X1, X2, X3]; done))) | ((with_reducible refine o_loadN (cs := ?_) (r := ?_) (ty := ?_) (x := ?_) (b := ?_) (off := ?_) ?_ ?_ H2 ?_ ?_ ?_ ?_ (hK _ _ (aK H2) ?_)); rotate_left 6; exact rfl; exact rfl; (with_reducible assumption); (repeat first | exact .head _ | apply List.Mem.tail); (focus (intro _; simp [X0, X1, X2, X3]; done)); (focus (intro _; simp [X0, X1, X2, X3]; done))) | ((with_reducible refine o_loadNC (row := ?_) (ty := ?_) (x := ?_) (b := ?_) ?_ ?_ H2 ?_ ?_ ?_ (hK _ _ (aK H2) ?_)); rotate_left 4; exact rfl; exact rfl; (repeat first | exact .head _ | apply List.Mem.tail); (focus (intro _; simp [X0, X1, X2, X3]; done)); (focus (intro _; simp [X0, X1, X2, X3]; done)))); clear hK K; simp only [Act.put, List.setIfInBounds_toArray, List.set_cons_succ, List.set_cons_zero, X0, X1, X2, X3]; revert H2; revert w3; exact kk.out)) : P := h ⟨k⟩
theorem a014440a {P Q : Prop} (k : Q) (h : Hold Q → P := by (intro kk; guard_target = wpTreeC _ _ _ (Tr.e _ _) _ _ _; (with_reducible refine treeC_one_skip (o := ?_) (fun w3 hx => aK (H.ext hx)) ?_ ?_ (fun w3 hx => ?_)); rotate_left 1; exact rfl; exact rfl; have H2 := H.ext hx; clear hx; simp only [List.getElem_toArray, List.getElem_cons_succ, List.getElem_cons_zero, Act.put, List.setIfInBounds_toArray, List.set_cons_succ, List.set_cons_zero, X0, X1, X2, X3]; revert H2; revert w3; exact kk.out)) : P := h ⟨k⟩
theorem a141a087 {P Q : Prop} (k : Q) (h : Hold Q → P := by (intro kk; (first | (guard_target = wpList _ _ _ (Oper.mk _ (.alloc _) _ _ _ _ :: _) _ _; (with_reducible refine BigFrame.wpList_want ?_ (fun K hK => ?_)); exact rfl; refine o_alloc (z := ?_) rfl ?_ H rfl (fun w3 b2 he H2 => hK _ _ ?_); rotate_left 1; (focus (intro _; simp; with_reducible exact rfl))) | (guard_target = wpList _ _ _ (Oper.mk _ (.box _ _) _ _ _ _ :: _) _ _; (with_reducible refine BigFrame.wpList_want ?_ (fun K hK => ?_)); exact rfl; (with_reducible refine o_box (ty := ?_) (x := ?_) (row := ?_) ?_ H ?_ (fun w3 b2 he H2 => hK _ _ ?_)); rotate_left 3; exact rfl; exact rfl) | (guard_target = wpList _ _ _ (Oper.mk _ (.buildSlice _ _ _) _ _ _ _ :: _) _ _; (with_reducible refine BigFrame.wpList_want ?_ (fun K hK => ?_)); exact rfl; refine o_buildSlice (C := ?_) (E := ?_) rfl rfl H ?_ rfl (fun w3 b2 he H2 => hK _ _ ?_); rotate_left 2; (focus (intro _; simp [go_sem, Instr.buildSlice]; with_reducible exact rfl)))); clear hK K he; (try simp [Act.eval, List.getD, X0, X1, X2, X3] at H2); (try simp [Value.cells, setL, X0, X1, X2, X3] at H2); simp only [Act.put, List.setIfInBounds_toArray, List.set_cons_succ, List.set_cons_zero, X0, X1, X2, X3]; revert H2; revert w3; revert b2; exact kk.out)) : P := h ⟨k⟩
theorem a218e51a {P Q : Prop} (k : Q) (h : Hold Q → P := by (intro kk; guard_target = wpList _ _ _ (Oper.mk _ (.store _ _ _) _ _ _ _ :: _) _ _; (with_reducible refine BigFrame.wpList_want ?_ (fun K hK => ?_)); exact rfl; (with_reducible refine o_store (l' := ?_) (row := ?_) (ty := ?_) (x := ?_) (y := ?_) (b := ?_) (off := ?_) (vs := ?_) ?_ ?_ H ?_ ?_ ?_ ?_ ?_ (fun w3 H2 => hK _ _ ?_)); rotate_left 8; exact rfl; exact rfl; exact rfl; (first | exact r0 | exact r1 | exact r2 | exact r3 | exact r4 | exact r5 | exact r6 | exact r7 | exact r8 | exact r9 | exact r10 | exact r11 | exact r12 | exact r13 | exact r14 | exact r15); (focus (intro _; (first | (simp [Act.eval, List.getD, X0, X1, X2, X3]; done) | (simp [Act.eval, Value.cells, List.getD, X0, X1, X2, X3]; done)))); (focus (first | (simp [Act.eval, List.getD, X0, X1, X2, X3]; done) | (simp [Act.eval, Value.cells, List.getD, X0, X1, X2, X3]; done) | ((try simp [Act.eval, List.getD, X0, X1, X2, X3]); omega) | ((try simp [Act.eval, Value.cells, List.getD, X0, X1, X2, X3]); omega))); (first | exact rfl | (focus (first | (simp [Act.eval, List.getD, X0, X1, X2, X3]; done) | (simp [Act.eval, Value.cells, List.getD, X0, X1, X2, X3]; done)))); clear hK K; (try simp [Act.eval, List.getD, X0, X1, X2, X3] at H2); (try simp [Value.cells, setL, X0, X1, X2, X3] at H2); simp only [Act.put, List.setIfInBounds_toArray, List.set_cons_succ, List.set_cons_zero, X0, X1, X2, X3]; revert H2; revert w3; exact kk.out)) : P := h ⟨k⟩
theorem a2248804 {P Q : Prop} (k : Q) (h : Hold Q → P := by (intro kk; simp only [List.getElem_toArray, List.getElem_cons_succ, List.getElem_cons_zero, Act.put, List.setIfInBounds_toArray, List.set_cons_succ, List.set_cons_zero, X0, X1, X2, X3]; exact kk.out)) : P := h ⟨k⟩
theorem a2601604 {P Q : Prop} (k : Q) (h : Hold Q → P := by (intro kk; guard_target = wpList _ _ _ (Oper.mk _ (.load _ _) _ _ _ _ :: _) _ _; (with_reducible refine BigFrame.wpList_want ?_ (fun K hK => ?_)); exact rfl; (first | ((with_reducible refine o_load (v := ?_) (r := ?_) (ty := ?_) (x := ?_) (b := ?_) (off := ?_) ?_ ?_ H ?_ ?_ ?_ (hK _ _ ?_)); rotate_left 6; exact rfl; exact rfl; (with_reducible assumption); (repeat first | exact .head _ | apply List.Mem.tail); (focus (intro _; simp [X0, X1, X2, X3]; done))) | ((with_reducible refine o_loadC (v := ?_) (row := ?_) (ty := ?_) (x := ?_) (b := ?_) (off := ?_) ?_ ?_ H ?_ ?_ ?_ (hK _ _ ?_)); rotate_left 6; exact rfl; exact rfl; (repeat first | exact .head _ | apply List.Mem.tail); (first | exact rfl | with_reducible assumption); (focus (intro _; simp [X0, X1, X2, X3]; done))) | ((with_reducible refine o_loadN (cs := ?_) (r := ?_) (ty := ?_) (x := ?_) (b := ?_) (off := ?_) ?_ ?_ H ?_ ?_ ?_ ?_ (hK _ _ ?_)); rotate_left 6; exact rfl; exact rfl; (with_reducible assumption); (repeat first | exact .head _ | apply List.Mem.tail); (focus (intro _; simp [X0, X1, X2, X3]; done)); (focus (intro _; simp [X0, X1, X2, X3]; done))) | ((with_reducible refine o_loadNC (row := ?_) (ty := ?_) (x := ?_) (b := ?_) ?_ ?_ H ?_ ?_ ?_ (hK _ _ ?_)); rotate_left 4; exact rfl; exact rfl; (repeat first | exact .head _ | apply List.Mem.tail); (focus (intro _; simp [X0, X1, X2, X3]; done)); (focus (intro _; simp [X0, X1, X2, X3]; done)))); clear hK K; simp only [Act.put, List.setIfInBounds_toArray, List.set_cons_succ, List.set_cons_zero, X0, X1, X2, X3]; exact kk.out)) : P := h ⟨k⟩
theorem a41f381c {P Q : Prop} (k : Q) (h : Hold Q → P := by (intro kk; guard_target = wpTreeC _ _ _ (Tr.q _ _) _ _ _; (with_reducible refine treeC_call (v := ?_) (o := ?_) (aK H) ?_ ?_ (fun w3 H K hK => ?_) ?_); rotate_left 2; exact rfl; exact rfl; (focus (simp only [List.getElem_toArray, List.getElem_cons_succ, List.getElem_cons_zero]; go_big_op; exact aE)); simp only [List.getElem_toArray, List.getElem_cons_succ, List.getElem_cons_zero, Act.put, List.setIfInBounds_toArray, List.set_cons_succ, List.set_cons_zero, X0, X1, X2, X3]; exact kk.out)) : P := h ⟨k⟩
theorem a47b1d47 {P Q : Prop} (k : Q) (h : Hold Q → P := by (intro kk; guard_target = wpTreeC _ _ _ (Tr.e _ Tr.nil) _ _ _; (with_reducible refine treeC_last (o := ?_) (by decide +kernel) H ?_ ?_ (fun w3 H2 K hK => ?_)); rotate_left 1; exact rfl; exact rfl; simp only [List.getElem_toArray, List.getElem_cons_succ, List.getElem_cons_zero]; guard_target = Oper.wp _ (Oper.mk _ (.load _ _) _ _ _ _) _ _ _ _; (first | ((with_reducible refine o_load (v := ?_) (r := ?_) (ty := ?_) (x := ?_) (b := ?_) (off := ?_) ?_ ?_ H2 ?_ ?_ ?_ (hK _ _ ?_)); rotate_left 6; exact rfl; exact rfl; (with_reducible assumption); (repeat first | exact .head _ | apply List.Mem.tail); (focus (intro _; simp [X0, X1, X2, X3]; done))) | ((with_reducible refine o_loadC (v := ?_) (row := ?_) (ty := ?_) (x := ?_) (b := ?_) (off := ?_) ?_ ?_ H2 ?_ ?_ ?_ (hK _ _ ?_)); rotate_left 6; exact rfl; exact rfl; (repeat first | exact .head _ | apply List.Mem.tail); (first | exact rfl | with_reducible assumption); (focus (intro _; simp [X0, X1, X2, X3]; done))) | ((with_reducible refine o_loadN (cs := ?_) (r := ?_) (ty := ?_) (x := ?_) (b := ?_) (off := ?_) ?_ ?_ H2 ?_ ?_ ?_ ?_ (hK _ _ ?_)); rotate_left 6; exact rfl; exact rfl; (with_reducible assumption); (repeat first | exact .head _ | apply List.Mem.tail); (focus (intro _; simp [X0, X1, X2, X3]; done)); (focus (intro _; simp [X0, X1, X2, X3]; done))) | ((with_reducible refine o_loadNC (row := ?_) (ty := ?_) (x := ?_) (b := ?_) ?_ ?_ H2 ?_ ?_ ?_ (hK _ _ ?_)); rotate_left 4; exact rfl; exact rfl; (repeat first | exact .head _ | apply List.Mem.tail); (focus (intro _; simp [X0, X1, X2, X3]; done)); (focus (intro _; simp [X0, X1, X2, X3]; done)))); clear hK K; simp only [Act.put, List.setIfInBounds_toArray, List.set_cons_succ, List.set_cons_zero, X0, X1, X2, X3]; revert H2; revert w3; exact kk.out)) : P := h ⟨k⟩
theorem a5033774 {P Q : Prop} (k : Q) (h : Hold Q → P := by (intro kk; guard_target = wpTreeC _ _ _ (Tr.e _ _) _ _ _; (with_reducible refine treeC_one (o := ?_) H ?_ ?_ (fun w3 H2 K hK => ?_)); rotate_left 1; exact rfl; exact rfl; simp only [List.getElem_toArray, List.getElem_cons_succ, List.getElem_cons_zero]; guard_target = Oper.wp _ (Oper.mk _ (.store _ _ _) _ _ _ _) _ _ _ _; (with_reducible refine o_store (l' := ?_) (row := ?_) (ty := ?_) (x := ?_) (y := ?_) (b := ?_) (off := ?_) (vs := ?_) ?_ ?_ H2 ?_ ?_ ?_ ?_ ?_ (fun w4 H3 => hK _ _ (aM H3 ?_) ?_)); rotate_left 8; exact rfl; exact rfl; exact rfl; (first | exact r0 | exact r1 | exact r2 | exact r3 | exact r4 | exact r5 | exact r6 | exact r7 | exact r8 | exact r9 | exact r10 | exact r11 | exact r12 | exact r13 | exact r14 | exact r15); (focus (intro _; (first | (simp [Act.eval, List.getD, X0, X1, X2, X3]; done) | (simp [Act.eval, Value.cells, List.getD, X0, X1, X2, X3]; done)))); (focus (first | (simp [Act.eval, List.getD, X0, X1, X2, X3]; done) | (simp [Act.eval, Value.cells, List.getD, X0, X1, X2, X3]; done) | ((try simp [Act.eval, List.getD, X0, X1, X2, X3]); omega) | ((try simp [Act.eval, Value.cells, List.getD, X0, X1, X2, X3]); omega))); (first | exact rfl | (focus (first | (simp [Act.eval, List.getD, X0, X1, X2, X3]; done) | (simp [Act.eval, Value.cells, List.getD, X0, X1, X2, X3]; done)))); (first | (guard_target = Suf _ _; repeat first | exact .here | apply Suf.there) | (rotate_left; repeat first | exact .here | apply Suf.there)); clear hK K; (try simp [Act.eval, List.getD, X0, X1, X2, X3] at H3); (try simp [Value.cells, setL, X0, X1, X2, X3] at H3); simp only [Act.put, List.setIfInBounds_toArray, List.set_cons_succ, List.set_cons_zero, X0, X1, X2, X3]; revert H3; revert w4; exact kk.out)) : P := h ⟨k⟩
theorem a60178b1 {P Q : Prop} (k : Q) (h : Hold Q → P := by (intro kk; guard_target = wpTreeC _ _ _ (Tr.e _ Tr.nil) _ _ _; (with_reducible refine treeC_last (o := ?_) (by decide +kernel) H ?_ ?_ (fun w3 H2 K hK => ?_)); rotate_left 1; exact rfl; exact rfl; simp only [List.getElem_toArray, List.getElem_cons_succ, List.getElem_cons_zero]; (first | (guard_target = Oper.wp _ (Oper.mk _ (.alloc _) _ _ _ _) _ _ _ _; refine o_alloc (z := ?_) rfl ?_ H2 rfl (fun w4 b2 he H3 => hK _ _ ?_); rotate_left 1; (focus (intro _; simp; with_reducible exact rfl))) | (guard_target = Oper.wp _ (Oper.mk _ (.box _ _) _ _ _ _) _ _ _ _; (with_reducible refine o_box (ty := ?_) (x := ?_) (row := ?_) ?_ H2 ?_ (fun w4 b2 he H3 => hK _ _ ?_)); rotate_left 3; exact rfl; exact rfl) | (guard_target = Oper.wp _ (Oper.mk _ (.buildSlice _ _ _) _ _ _ _) _ _ _ _; refine o_buildSlice (C := ?_) (E := ?_) rfl rfl H2 ?_ rfl (fun w4 b2 he H3 => hK _ _ ?_); rotate_left 2; (focus (intro _; simp [go_sem, Instr.buildSlice]; with_reducible exact rfl)))); clear hK K he; (try simp [Act.eval, List.getD, X0, X1, X2, X3] at H3); (try simp [Value.cells, setL, X0, X1, X2, X3] at H3); simp only [Act.put, List.setIfInBounds_toArray, List.set_cons_succ, List.set_cons_zero, X0, X1, X2, X3]; revert H3; revert w4; revert b2; exact kk.out)) : P := h ⟨k⟩
theorem a6155ff7 {P Q : Prop} (k : Q) (h : Hold Q → P := by (intro kk; (first | (guard_target = wpList _ _ _ (Oper.mk _ (.store _ _ _) _ _ _ _ :: _) _ _; exact a218e51a kk.out) | (guard_target = wpTreeC _ _ _ (Tr.e _ Tr.nil) _ _ _; exact aa105659 kk.out) | (guard_target = wpTreeC _ _ _ (Tr.e _ Tr.nil) _ _ _; exact a47b1d47 kk.out) | (guard_target = wpTreeC _ _ _ (Tr.e _ _) _ _ _; exact a5033774 kk.out) | (guard_target = wpTreeC _ _ _ (Tr.e _ _) _ _ _; exact a000c48b kk.out) | (guard_target = wpTreeC _ _ _ (Tr.e _ _) _ _ _; exact a014440a kk.out)))) : P := h ⟨k⟩
theorem a8555864 {P Q : Prop} (k : Q) (h : Hold Q → P := by (intro kk; refine hK _ _ (aK H) ?_; (try simp only [Act.put, List.setIfInBounds_toArray, List.set_cons_succ, List.set_cons_zero, X0, X1, X2, X3]); exact kk.out)) : P := h ⟨k⟩
theorem a919741b {P Q : Prop} (k : Q) (h : Hold Q → P := by (intro kk; (first | (exact a141a087 kk.out) | (guard_target = wpTreeC _ _ _ (Tr.e _ Tr.nil) _ _ _; exact a60178b1 kk.out) | (guard_target = wpTreeC _ _ _ (Tr.e _ _) _ _ _; exact ac4b56f8 kk.out)))) : P := h ⟨k⟩
theorem aa105659 {P Q : Prop} (k : Q) (h : Hold Q → P := by (intro kk; guard_target = wpTreeC _ _ _ (Tr.e _ Tr.nil) _ _ _; (with_reducible refine treeC_last (o := ?_) (by decide +kernel) H ?_ ?_ (fun w3 H2 K hK => ?_)); rotate_left 1; exact rfl; exact rfl; simp only [List.getElem_toArray, List.getElem_cons_succ, List.getElem_cons_zero]; guard_target = Oper.wp _ (Oper.mk _ (.store _ _ _) _ _ _ _) _ _ _ _; (with_reducible refine o_store (l' := ?_) (row := ?_) (ty := ?_) (x := ?_) (y := ?_) (b := ?_) (off := ?_) (vs := ?_) ?_ ?_ H2 ?_ ?_ ?_ ?_ ?_ (fun w4 H3 => hK _ _ ?_)); rotate_left 8; exact rfl; exact rfl; exact rfl; (first | exact r0 | exact r1 | exact r2 | exact r3 | exact r4 | exact r5 | exact r6 | exact r7 | exact r8 | exact r9 | exact r10 | exact r11 | exact r12 | exact r13 | exact r14 | exact r15); (focus (intro _; (first | (simp [Act.eval, List.getD, X0, X1, X2, X3]; done) | (simp [Act.eval, Value.cells, List.getD, X0, X1, X2, X3]; done)))); (focus (first | (simp [Act.eval, List.getD, X0, X1, X2, X3]; done) | (simp [Act.eval, Value.cells, List.getD, X0, X1, X2, X3]; done) | ((try simp [Act.eval, List.getD, X0, X1, X2, X3]); omega) | ((try simp [Act.eval, Value.cells, List.getD, X0, X1, X2, X3]); omega))); (first | exact rfl | (focus (first | (simp [Act.eval, List.getD, X0, X1, X2, X3]; done) | (simp [Act.eval, Value.cells, List.getD, X0, X1, X2, X3]; done)))); clear hK K; (try simp [Act.eval, List.getD, X0, X1, X2, X3] at H3); (try simp [Value.cells, setL, X0, X1, X2, X3] at H3); simp only [Act.put, List.setIfInBounds_toArray, List.set_cons_succ, List.set_cons_zero, X0, X1, X2, X3]; revert H3; revert w4; exact kk.out)) : P := h ⟨k⟩
theorem ac4b56f8 {P Q : Prop} (k : Q) (h : Hold Q → P := by (intro kk; guard_target = wpTreeC _ _ _ (Tr.e _ _) _ _ _; (with_reducible refine treeC_one (o := ?_) H ?_ ?_ (fun w3 H2 K hK => ?_)); rotate_left 1; exact rfl; exact rfl; simp only [List.getElem_toArray, List.getElem_cons_succ, List.getElem_cons_zero]; (first | (guard_target = Oper.wp _ (Oper.mk _ (.alloc _) _ _ _ _) _ _ _ _; refine o_alloc (z := ?_) rfl ?_ H2 rfl (fun w4 b2 he H3 => hK _ _ (aM H3 ?_) ?_); rotate_left 1; (focus (intro _; simp; with_reducible exact rfl))) | (guard_target = Oper.wp _ (Oper.mk _ (.box _ _) _ _ _ _) _ _ _ _; (with_reducible refine o_box (ty := ?_) (x := ?_) (row := ?_) ?_ H2 ?_ (fun w4 b2 he H3 => hK _ _ (aM H3 ?_) ?_)); rotate_left 3; exact rfl; exact rfl) | (guard_target = Oper.wp _ (Oper.mk _ (.buildSlice _ _ _) _ _ _ _) _ _ _ _; refine o_buildSlice (C := ?_) (E := ?_) rfl rfl H2 ?_ rfl (fun w4 b2 he H3 => hK _ _ (aM H3 ?_) ?_); rotate_left 2; (focus (intro _; simp [go_sem, Instr.buildSlice]; with_reducible exact rfl)))); (first | (guard_target = Suf _ _; repeat first | exact .here | apply Suf.there) | (rotate_left; repeat first | exact .here | apply Suf.there)); clear hK K he; (try simp [Act.eval, List.getD, X0, X1, X2, X3] at H3); (try simp [Value.cells, setL, X0, X1, X2, X3] at H3); simp only [Act.put, List.setIfInBounds_toArray, List.set_cons_succ, List.set_cons_zero, X0, X1, X2, X3]; revert H3; revert w4; revert b2; exact kk.out)) : P := h ⟨k⟩
theorem ad78d842 {P Q : Prop} (k : Q) (h : Hold Q → P := by (intro kk; (first | (guard_target = wpList _ _ _ (Oper.mk _ (.load _ _) _ _ _ _ :: _) _ _; exact a2601604 kk.out) | (guard_target = wpTreeC _ _ _ (Tr.q _ _) _ _ _; exact aefb41bf kk.out) | (guard_target = wpTreeC _ _ _ (Tr.q _ _) _ _ _; exact a41f381c kk.out)))) : P := h ⟨k⟩
theorem ae79f3e4 {P Q : Prop} (k : Q) (h : Hold Q → P := by (intro kk; guard_target = wpTree _ _ _ (Tr.q _ _) _ _ _; (first | ((with_reducible refine tree_quiet (o := ?_) (aK H) ?_ ?_ ?_ (fun K hK => ?_)); rotate_left 1; exact rfl; exact rfl; exact rfl; simp only [List.getElem_toArray, List.getElem_cons_succ, List.getElem_cons_zero]; (first | (guard_target = Oper.quiet _ (Oper.mk _ (.load _ _) _ _ _ _) _ _ _; (first | ((with_reducible refine q_load (v := ?_) (r := ?_) (ty := ?_) (x := ?_) (b := ?_) (off := ?_) ?_ ?_ ?_ ?_ ?_ (hK _ ?_)); rotate_left 6; exact rfl; exact rfl; (with_reducible assumption); (repeat first | exact .head _ | apply List.Mem.tail); (focus (intro _; simp [X0, X1, X2, X3]; done))) | ((with_reducible refine q_loadC (v := ?_) (row := ?_) (ty := ?_) (x := ?_) (b := ?_) (off := ?_) ?_ ?_ ?_ ?_ ?_ (hK _ ?_)); rotate_left 6; exact rfl; exact rfl; (repeat first | exact .head _ | apply List.Mem.tail); (first | exact rfl | with_reducible assumption); (focus (intro _; simp [X0, X1, X2, X3]; done))) | ((with_reducible refine q_loadN (cs := ?_) (r := ?_) (ty := ?_) (x := ?_) (b := ?_) (off := ?_) ?_ ?_ ?_ ?_ ?_ ?_ (hK _ ?_)); rotate_left 6; exact rfl; exact rfl; (with_reducible assumption); (repeat first | exact .head _ | apply List.Mem.tail); (focus (intro _; simp [X0, X1, X2, X3]; done)); (focus (intro _; simp [X0, X1, X2, X3]; done))) | ((with_reducible refine q_loadNC (row := ?_) (ty := ?_) (x := ?_) (b := ?_) ?_ ?_ ?_ ?_ ?_ (hK _ ?_)); rotate_left 4; exact rfl; exact rfl; (repeat first | exact .head _ | apply List.Mem.tail); (focus (intro _; simp [X0, X1, X2, X3]; done)); (focus (intro _; simp [X0, X1, X2, X3]; done)))); clear hK K; simp only [Act.put, List.setIfInBounds_toArray, List.set_cons_succ, List.set_cons_zero, X0, X1, X2, X3]) | (go_big_quiet_op; (try refine ⟨_, fun _ _ => rfl, ?_⟩); refine hK _ ?_; clear hK K))) | ((with_reducible refine tree_skip (o := ?_) (aK H) ?_ ?_ ?_); rotate_left 1; exact rfl; exact rfl; simp only [List.getElem_toArray, List.getElem_cons_succ, List.getElem_cons_zero, Act.put, List.setIfInBounds_toArray, List.set_cons_succ, List.set_cons_zero, X0, X1, X2, X3])); exact kk.out)) : P := h ⟨k⟩
theorem aefb41bf {P Q : Prop} (k : Q) (h : Hold Q → P := by (intro kk; guard_target = wpTreeC _ _ _ (Tr.q _ _) _ _ _; (first | ((with_reducible refine treeC_quiet (o := ?_) (aK H) ?_ ?_ ?_ (fun K hK => ?_)); rotate_left 1; exact rfl; exact rfl; exact rfl; simp only [List.getElem_toArray, List.getElem_cons_succ, List.getElem_cons_zero]; (first | (guard_target = Oper.quiet _ (Oper.mk _ (.load _ _) _ _ _ _) _ _ _; (first | ((with_reducible refine q_load (v := ?_) (r := ?_) (ty := ?_) (x := ?_) (b := ?_) (off := ?_) ?_ ?_ ?_ ?_ ?_ (hK _ ?_)); rotate_left 6; exact rfl; exact rfl; (with_reducible assumption); (repeat first | exact .head _ | apply List.Mem.tail); (focus (intro _; simp [X0, X1, X2, X3]; done))) | ((with_reducible refine q_loadC (v := ?_) (row := ?_) (ty := ?_) (x := ?_) (b := ?_) (off := ?_) ?_ ?_ ?_ ?_ ?_ (hK _ ?_)); rotate_left 6; exact rfl; exact rfl; (repeat first | exact .head _ | apply List.Mem.tail); (first | exact rfl | with_reducible assumption); (focus (intro _; simp [X0, X1, X2, X3]; done))) | ((with_reducible refine q_loadN (cs := ?_) (r := ?_) (ty := ?_) (x := ?_) (b := ?_) (off := ?_) ?_ ?_ ?_ ?_ ?_ ?_ (hK _ ?_)); rotate_left 6; exact rfl; exact rfl; (with_reducible assumption); (repeat first | exact .head _ | apply List.Mem.tail); (focus (intro _; simp [X0, X1, X2, X3]; done)); (focus (intro _; simp [X0, X1, X2, X3]; done))) | ((with_reducible refine q_loadNC (row := ?_) (ty := ?_) (x := ?_) (b := ?_) ?_ ?_ ?_ ?_ ?_ (hK _ ?_)); rotate_left 4; exact rfl; exact rfl; (repeat first | exact .head _ | apply List.Mem.tail); (focus (intro _; simp [X0, X1, X2, X3]; done)); (focus (intro _; simp [X0, X1, X2, X3]; done)))); clear hK K; simp only [Act.put, List.setIfInBounds_toArray, List.set_cons_succ, List.set_cons_zero, X0, X1, X2, X3]) | (go_big_quiet_op; (try refine ⟨_, fun _ _ => rfl, ?_⟩); refine hK _ ?_; clear hK K))) | ((with_reducible refine treeC_skip (o := ?_) (aK H) ?_ ?_ ?_); rotate_left 1; exact rfl; exact rfl; simp only [List.getElem_toArray, List.getElem_cons_succ, List.getElem_cons_zero, Act.put, List.setIfInBounds_toArray, List.set_cons_succ, List.set_cons_zero, X0, X1, X2, X3])); exact kk.out)) : P := h ⟨k⟩
theorem afab4b57 {P Q : Prop} (k : Q) (h : Hold Q → P := by (intro kk; guard_target = wpTreeC _ _ _ (Tr.e _ _) _ _ _; (with_reducible refine treeC_one (o := ?_) H ?_ ?_ (fun w3 H2 K hK => ?_)); rotate_left 1; exact rfl; exact rfl; simp only [List.getElem_toArray, List.getElem_cons_succ, List.getElem_cons_zero]; go_big_op; refine hK _ _ (aK H2) ?_; clear hK K; (try simp only [Act.put, List.setIfInBounds_toArray, List.set_cons_succ, List.set_cons_zero, X0, X1, X2, X3]); revert H2; revert w3; exact kk.out)) : P := h ⟨k⟩
variable {P : Program} {B : Nat} {w0 w : World} {l l' : List Res}
def Res.at : Res → Nat → Nat → List Value → Prop
 | .cells b row, b', o, cs => b' = b ∧ (row.drop o).take cs.length = cs
 | .grow _ _ v _ xs, b', o, cs => v.ownBlock = some b' ∧ (xs.drop o).take cs.length = cs
 | .rd _ b off xs, b', o, cs => b' = b ∧ ∃ j, o = off + j ∧ (xs.drop j).take cs.length = cs
 | .any _ _ _, _, _, _ => False
theorem take_get {xs cs : List Value} {o : Nat} (h : (xs.drop o).take cs.length = cs) {j : Nat} {v : Value} (hv : cs[j]? = some v) : xs[o + j]? = some v := by
 have hj : j < cs.length := (List.getElem?_eq_some_iff.1 hv).1
 rw [← h] at hv
 simpa [List.getElem?_take, hj] using hv
theorem Own.range (H : Own B w0 w l) {r : Res} (hm : r ∈ l) {b o : Nat} {cs : List Value} (hc : r.at b o cs) : w.rangeAt b o cs := by
 have h := H.holds r hm
 cases r with
 | cells b' row =>
  obtain ⟨rfl, hc⟩ := hc
  obtain ⟨T, hT⟩ := h
  intro j v hv
  rw [cell_of_row w b (o + j) row.toArray T (0, 0) hT]
  simpa using take_get hc hv
 | grow e size v n xs =>
  obtain ⟨hb, hc⟩ := hc
  intro j u hu
  have := h.cells hb (o + j) u (take_get hc hu)
  rwa [Addr.add_mid, Nat.zero_add] at this
 | rd A b' off xs =>
  obtain ⟨rfl, j, rfl, hc⟩ := hc
  intro i v hv
  have := h.2 (j + i) v (take_get hc hv)
  rwa [← Nat.add_assoc] at this
 | any ro foot Q => exact hc.elim
theorem at_cells {b : Nat} {row : List Value} {o : Nat} {v : Value} (h : row[o]? = some v) : (Res.cells b row).at b o [v] := by
 refine ⟨rfl, ?_⟩
 obtain ⟨hlt, rfl⟩ := List.getElem?_eq_some_iff.1 h
 rw [List.drop_eq_getElem_cons hlt]
 rfl
theorem at_block {b : Nat} {row : List Value} : (Res.cells b row).at b 0 row := ⟨rfl, by simp⟩
theorem at_part {b : Nat} {row : List Value} (o n : Nat) (h : o + n ≤ row.length) : (Res.cells b row).at b o ((row.drop o).take n) := by
 refine ⟨rfl, ?_⟩
 rw [List.length_take, List.length_drop, Nat.min_eq_left (by omega)]
theorem at_rd {A : Option Addr} {b off : Nat} {xs : List Value} {j : Nat} {v : Value} (h : xs[j]? = some v) : (Res.rd A b off xs).at b (off + j) [v] := by
 refine ⟨rfl, j, rfl, ?_⟩
 obtain ⟨hlt, rfl⟩ := List.getElem?_eq_some_iff.1 h
 rw [List.drop_eq_getElem_cons hlt]
 rfl
theorem at_rdN {A : Option Addr} {b off : Nat} {xs : List Value} {j : Nat} {cs : List Value} (h : (xs.drop j).take cs.length = cs) : (Res.rd A b off xs).at b (off + j) cs := ⟨rfl, j, rfl, h⟩
theorem run_load1 {b o : Nat} {v : Value} {ty : TypeId} (h : w.rangeAt b o [v]) (ha : (isAgg ty).run P w = .ok false w) : (Instr.loadAt ty (.pointer (some ⟨b, o, none⟩))).run P w = .ok v w := by
 have h0 : w.cell? ⟨b, o, none⟩ = some v := by simpa using h 0 v rfl
 simp [Instr.loadAt, Instr.sureAddr, loadVar, ha, h0]
theorem run_loadN {b o : Nat} {cs : List Value} {ty : TypeId} (h : w.rangeAt b o cs) (ha : (isAgg ty).run P w = .ok true w) (hs : (sizeOf ty).run P w = .ok cs.length w) : (Instr.loadAt ty (.pointer (some ⟨b, o, none⟩))).run P w = .ok (.agg cs.toArray) w := by
 have hl : (loadCells ⟨b, o, none⟩ cs.length).run P w = .ok cs.toArray w :=
  run_loadCells_list (P := P) w ⟨b, o, none⟩ cs (fun j v hv => by rw [Addr.add_mid]; exact h j v hv)
 simp [Instr.loadAt, Instr.sureAddr, loadVar, ha, hs, hl]
theorem Own.loadVarN {ty : TypeId} {b : Nat} {row : List Value} (H : Own B w0 w l) (hm : Res.cells b row ∈ l) (ha : (isAgg ty).run P w = .ok true w) (hs : (sizeOf ty).run P w = .ok row.length w) : (loadVar ty ⟨b, 0, none⟩).run P w = .ok (.agg row.toArray) w := by
 have h := run_loadN (P := P) (H.range (r := .cells b row) hm (b := b) (o := 0) (cs := row) at_block) ha hs
 simpa [Instr.loadAt, Instr.sureAddr] using h
section
variable {o : Oper} {a : Act} {Q : Exit → Act → World → Prop} {ty : TypeId} {x y : Operand} {b off : Nat}
theorem q_load {lf : List Res} {K : Act → Prop} {v : Value} {r : Res} (ho : o.op = .load ty x) (hx : a.eval x = .pointer (some ⟨b, off, none⟩)) (hc : r.at b off [v]) (hm : r ∈ lf)
  (ha : ∀ w, (isAgg ty).run P w = .ok false w) (hk : K (a.put o.dst v)) : o.quiet P a (Keeps B w0 lf) K :=
 ⟨v, fun w' ⟨l, H, hs⟩ => by
  unfold Oper.quietAt execOp
  simp only [ho, hx, Sem.run_bind, run_load1 (H.range (hs.mem hm) hc) (ha w')]
  exact ⟨rfl, rfl⟩, hk⟩
theorem q_loadN {lf : List Res} {K : Act → Prop} {cs : List Value} {r : Res} (ho : o.op = .load ty x) (hx : a.eval x = .pointer (some ⟨b, off, none⟩)) (hc : r.at b off cs) (hm : r ∈ lf)
  (ha : ∀ w, (isAgg ty).run P w = .ok true w) (hs : ∀ w, (sizeOf ty).run P w = .ok cs.length w) (hk : K (a.put o.dst (.agg cs.toArray))) : o.quiet P a (Keeps B w0 lf) K :=
 ⟨.agg cs.toArray, fun w' ⟨l, H, hss⟩ => by
  unfold Oper.quietAt execOp
  simp only [ho, hx, Sem.run_bind, run_loadN (H.range (hss.mem hm) hc) (ha w') (hs w')]
  exact ⟨rfl, rfl⟩, hk⟩
theorem o_load {K : Act → World → Prop} {v : Value} {r : Res} (ho : o.op = .load ty x) (hx : a.eval x = .pointer (some ⟨b, off, none⟩)) (H : Own B w0 w l) (hc : r.at b off [v]) (hm : r ∈ l)
  (ha : ∀ w, (isAgg ty).run P w = .ok false w) (hk : K (a.put o.dst v) w) : o.wp P a w K Q := by
 unfold Oper.wp execOp
 simp only [ho, hx, Sem.run_bind, run_load1 (H.range hm hc) (ha w)]
 exact hk
theorem o_loadN {K : Act → World → Prop} {cs : List Value} {r : Res} (ho : o.op = .load ty x) (hx : a.eval x = .pointer (some ⟨b, off, none⟩)) (H : Own B w0 w l) (hc : r.at b off cs) (hm : r ∈ l)
  (ha : ∀ w, (isAgg ty).run P w = .ok true w) (hs : ∀ w, (sizeOf ty).run P w = .ok cs.length w) (hk : K (a.put o.dst (.agg cs.toArray)) w) : o.wp P a w K Q := by
 unfold Oper.wp execOp
 simp only [ho, hx, Sem.run_bind, run_loadN (H.range hm hc) (ha w) (hs w)]
 exact hk
theorem q_loadC {lf : List Res} {K : Act → Prop} {v : Value} {row : List Value} (ho : o.op = .load ty x) (hx : a.eval x = .pointer (some ⟨b, off, none⟩)) (hm : Res.cells b row ∈ lf) (hv : row[off]? = some v)
  (ha : ∀ w, (isAgg ty).run P w = .ok false w) (hk : K (a.put o.dst v)) : o.quiet P a (Keeps B w0 lf) K := q_load ho hx (at_cells hv) hm ha hk
theorem o_loadC {K : Act → World → Prop} {v : Value} {row : List Value} (ho : o.op = .load ty x) (hx : a.eval x = .pointer (some ⟨b, off, none⟩)) (H : Own B w0 w l) (hm : Res.cells b row ∈ l) (hv : row[off]? = some v)
  (ha : ∀ w, (isAgg ty).run P w = .ok false w) (hk : K (a.put o.dst v) w) : o.wp P a w K Q := o_load ho hx H (at_cells hv) hm ha hk
theorem q_loadNC {lf : List Res} {K : Act → Prop} {row : List Value} (ho : o.op = .load ty x) (hx : a.eval x = .pointer (some ⟨b, 0, none⟩)) (hm : Res.cells b row ∈ lf)
  (ha : ∀ w, (isAgg ty).run P w = .ok true w) (hs : ∀ w, (sizeOf ty).run P w = .ok row.length w) (hk : K (a.put o.dst (.agg row.toArray))) : o.quiet P a (Keeps B w0 lf) K := q_loadN ho hx at_block hm ha hs hk
theorem o_loadNC {K : Act → World → Prop} {row : List Value} (ho : o.op = .load ty x) (hx : a.eval x = .pointer (some ⟨b, 0, none⟩)) (H : Own B w0 w l) (hm : Res.cells b row ∈ l)
  (ha : ∀ w, (isAgg ty).run P w = .ok true w) (hs : ∀ w, (sizeOf ty).run P w = .ok row.length w) (hk : K (a.put o.dst (.agg row.toArray)) w) : o.wp P a w K Q := o_loadN ho hx H at_block hm ha hs hk
def setL : List Value → Nat → List Value → List Value
 | row, _, [] => row
 | row, o, v :: r => setL (row.set o v) (o + 1) r
theorem setL_eq : ∀ (vs : List Value) (row : List Value) (o : Nat), o + vs.length ≤ row.length → setL row o vs = row.take o ++ vs ++ row.drop (o + vs.length)
 | [], row, o, _ => by simp [setL]
 | v :: r, row, o, h => by
  simp only [List.length_cons] at h
  rw [setL, setL_eq r _ _ (by simpa using (by omega : o + 1 + r.length ≤ row.length)), list_seg_step row o v r h]
  simp
theorem setL_length (vs row : List Value) (o : Nat) (h : o + vs.length ≤ row.length) : (setL row o vs).length = row.length := by
 rw [setL_eq vs row o h]; simp; omega
theorem Own.setRow {vs row : List Value} (H : Own B w0 w l) (hrep : Rep (.cells b row) (.cells b (setL row off vs)) l l') : Own B w0 (w.setRow b (setL row off vs).toArray) l' := by
 obtain ⟨T, hT⟩ := H.holds _ hrep.mem
 have hlt := H.lt _ hrep.mem b rfl
 have hs : (w.setRow b (setL row off vs).toArray).heap.size = w.heap.size := by simp [World.setRow]
 have hk : ∀ k, k ≠ b → (w.setRow b (setL row off vs).toArray).heap[k]? = w.heap[k]? := fun k hk => by
  simp only [World.setRow, Array.getElem?_modify]
  rw [if_neg (fun e => hk e.symm)]
 refine H.change hrep rfl rfl (.mk6 rfl rfl rfl (Nat.le_of_eq hs.symm) (fun k hk' => hk k (by have := hlt.2 rfl; omega)) (Nat.le_refl _)) (fun k _ hne => hk k hne) ⟨T, setRow_heap w b _ _ T (0, 0) hT⟩ (fun k hk' => ?_) (fun k hk' => .inl hk')
 obtain rfl : k = b := hk'
 rw [hs]; exact hlt.1
theorem run_storeO {row vs : List Value} {v : Value} (hv : v.cells.toList = vs) (H : Own B w0 w l) (hm : Res.cells b row ∈ l) (hs : (sizeOf ty).run P w = .ok vs.length w) (hfit : off + vs.length ≤ row.length) (h1 : vs.all (·.oneCell') = true) :
  (Instr.storeAt ty (.pointer (some ⟨b, off, none⟩)) v).run P w = .ok () (w.setRow b (setL row off vs).toArray) := by
 obtain ⟨T, hT⟩ := H.holds _ hm
 have h2 := run_storeCells_at P b off T vs 0 row.toArray w hT (by simpa using hfit) (fun u hu => List.all_eq_true.1 h1 u hu)
 rw [setL_eq vs row off hfit]
 have hl : v.cells.size = vs.length := by rw [← hv]; simp
 simp only [Nat.add_zero] at h2
 simp only [Instr.storeAt, Instr.sureAddr, storeVar, Sem.run_bind, Sem.run_pure, Result.andThen_ok, hs, hl, ne_eq, not_true_eq_false, if_false, hv]
 simpa using h2
theorem o_store {K : Act → World → Prop} {row vs : List Value} (ho : o.op = .store ty x y) (hx : a.eval x = .pointer (some ⟨b, off, none⟩)) (H : Own B w0 w l) (hv : (a.eval y).cells.toList = vs)
  (hrep : Rep (.cells b row) (.cells b (setL row off vs)) l l') (hs : ∀ w, (sizeOf ty).run P w = .ok vs.length w) (hfit : off + vs.length ≤ row.length) (h1 : vs.all (·.oneCell') = true)
  (hk : ∀ w', Own B w0 w' l' → K (a.put o.dst undef) w') : o.wp P a w K Q := by
 unfold Oper.wp execOp
 simp only [ho, hx, Sem.run_bind, run_storeO hv H hrep.mem (hs w) hfit h1]
 exact hk _ (H.setRow hrep)
theorem o_alloc {K : Act → World → Prop} {z : Value} {row : List Value} (ho : o.op = .alloc ty) (hz : ∀ w, (zeroValue ty).run P w = .ok z w) (H : Own B w0 w l) (hrow : z.cells.toList = row)
  (hk : ∀ w' b, Ext w w' → Own B w0 w' (.cells b row :: l) → K (a.put o.dst (.pointer (some ⟨b, 0, none⟩))) w') : o.wp P a w K Q := by
 unfold Oper.wp execOp
 subst hrow
 have : (Instr.alloc ty true (.tuple #[])).run P w = .ok (.pointer (some ⟨w.heap.size, 0, none⟩)) (w.alloc (.cells z.cells ty)) := by
  simp [Instr.alloc, hz w, newVar, newRow]
 simp only [ho, Sem.run_bind, this]
 exact hk _ _ (below_alloc1 w _) (H.alloc z.cells ty)
theorem o_box {K : Act → World → Prop} {row : List Value} (ho : o.op = .box ty x) (H : Own B w0 w l) (hrow : (a.eval x).cells.toList = row)
  (hk : ∀ w' b, Ext w w' → Own B w0 w' (.cells b row :: l) → K (a.put o.dst (.pointer (some ⟨b, 0, none⟩))) w') : o.wp P a w K Q := by
 unfold Oper.wp execOp
 subst hrow
 have : (Instr.box ty (a.eval x)).run P w = .ok (.pointer (some ⟨w.heap.size, 0, none⟩)) (w.alloc (.cells (a.eval x).cells ty)) := by
  simp [Instr.box, newVar, newRow]
 simp only [ho, Sem.run_bind, this]
 exact hk _ _ (below_alloc1 w _) (H.alloc (a.eval x).cells ty)
theorem o_buildSlice {K : Act → World → Prop} {t E : TypeId} {n : Nat} {parts : Array (Nat × Operand)} {ps : Array (Nat × Value)} {C : Array Value} {row : List Value} (ho : o.op = .buildSlice t n parts) (hp : parts.map (fun q => (q.1, a.eval q.2)) = ps)
  (H : Own B w0 w l) (hrun : ∀ w : World, (Instr.buildSlice t n ps).run P w = .ok (.slice (some ⟨w.heap.size, 0, none⟩) n n) (w.alloc (.cells C E))) (hrow : C.toList = row)
  (hk : ∀ w' b, Ext w w' → Own B w0 w' (.cells b row :: l) → K (a.put o.dst (.slice (some ⟨b, 0, none⟩) n n)) w') : o.wp P a w K Q := by
 unfold Oper.wp execOp
 subst hp hrow
 simp only [ho, Sem.run_bind, hrun w]
 exact hk _ _ (below_alloc1 w _) (H.alloc C E)
theorem Own.grow_nil (H : Own B w0 w l) (e size : Nat) : Own B w0 w (.grow e size (.slice none 0 0) 0 [] :: l) :=
 H.add _ (World.ownsRow_nil w 0 e size) (fun k hk => by cases hk) (fun r hr => .inr fun k hk => by cases hk)
theorem Own.grow_row {b : Nat} {C : Array Value} (e size cap n : Nat) (hm : cap ≤ maxLen) (hn : n ≤ cap) (hC : C.size = cap * size) (H : Own B w0 w l) :
  Own B w0 (w.alloc (.cells C e)) (.grow e size (.slice (some ⟨w.heap.size, 0, none⟩) n cap) n (C.toList.take (n * size)) :: l) := by
 refine (H.ext (below_alloc1 w _)).add _ ⟨?_, .inr ⟨w.heap.size, cap, C, rfl, Nat.zero_le _, heap_alloc_new w _, hn, hm, hC, rfl⟩⟩ (fun k hk => ?_) (fun r' hr' => .inr fun k hk hk' => ?_)
 ·have : n * size ≤ cap * size := Nat.mul_le_mul_right _ hn
  simp; omega
 ·obtain rfl : w.heap.size = k := by injection hk
  exact ⟨by simp, fun _ => H.base⟩
 ·obtain rfl : w.heap.size = k := by injection hk
  exact absurd (H.lt r' hr' _ hk').1 (Nat.lt_irrefl _)
theorem append_place {t ty e : TypeId} {i : TypeInfo} {z : Value} (ht : P.underlying t = some (.slice e)) (hi : P.info? e = some i) (hz : i.zero = some z)
  {v : Value} {n : Nat} {xs : List Value} (hown : w.ownsRow 0 e i.size v n xs) {ad : Addr} {m c : Nat} {news : List Value} (hl : news.length = m * i.size) (hnews : ∀ j u, news[j]? = some u → w.cell? (ad.add j) = some u) (h1 : ∀ u ∈ news, u.oneCell' = true)
  (h63 : n + m ≤ maxLen) (hbytes : (n + m) * i.bytes ≤ 140737488355328) {v' : Value} {w' : World} (hr : (Builtin.append_ #[t, t] ty #[v, .slice (some ad) m c]).run P w = .ok v' w') :
  ∀ k, v'.ownBlock = some k → v.ownBlock = some k ∨ w.heap.size ≤ k := by
 have hsmall : n + m ≤ 9223372036854775807 := by simp only [maxLen] at h63; omega
 rcases hown.2 with ⟨rfl, rfl⟩ | ⟨g, cap, cur, rfl, hbg, hg, hnc, hcm, hcs, htake⟩
 ·by_cases hm : m = 0
  ·subst hm
   have h2 : (Builtin.append_ #[t, t] ty #[.slice none 0 0, .slice (some ad) 0 c]).run P w = .ok (.slice none 0 0) w := by
    simp [Builtin.append_, run_underlying ht, sizeOf, typeInfo, hi, Builtin.lenOf, Builtin.firstCells, loadCells, loadCellsFrom]
   rw [h2] at hr
   injection hr with h3 h4
   subst h3
   intro k hk; cases hk
  ·have h2 := run_append_nil (P := P) w t ty e i z ht hi hz ad m c news hl hnews (by omega) (by omega) (by have hb := hbytes; simp only [Nat.zero_add] at hb; omega)
   rw [h2] at hr
   injection hr with h3 h4
   subst h3
   intro k hk
   injection hk with hk
   exact .inr (Nat.le_of_eq hk)
 ·by_cases hroom : n + m ≤ cap
  ·have hfit : n * i.size + news.length ≤ cur.size := by rw [hl, hcs, ← Nat.add_mul]; exact Nat.mul_le_mul_right _ hroom
   have h2 := run_append_room (P := P) w t ty e i ht hi g n cap cur hg ad m c news hl hnews h1 hroom hfit
   rw [h2] at hr
   injection hr with h3 h4
   subst h3
   intro k hk
   exact .inl hk
  ·have holds : ∀ j u, xs[j]? = some u → w.cell? ((⟨g, 0, none⟩ : Addr).add j) = some u := hown.cells (g := g) rfl
   have h2 := run_append_grow (P := P) w t ty e i z ht hi hz ⟨g, 0, none⟩ n cap xs hown.1 holds ad m c news hl hnews (by omega) (by omega) (growslice_fits (by omega) hbytes)
   rw [h2] at hr
   injection hr with h3 h4
   subst h3
   intro k hk
   injection hk with hk
   exact .inr (Nat.le_of_eq hk)
theorem append_drawn {t ty e : TypeId} {i : TypeInfo} {z : Value} (ht : P.underlying t = some (.slice e)) (hi : P.info? e = some i) (hz : i.zero = some z)
  {v : Value} {n : Nat} {xs : List Value} (hown : w.ownsRow 0 e i.size v n xs) {ad : Addr} {m c : Nat} {news : List Value} (hl : news.length = m * i.size) (hnews : ∀ j u, news[j]? = some u → w.cell? (ad.add j) = some u) (h1 : ∀ u ∈ news, u.oneCell' = true)
  (h63 : n + m ≤ maxLen) (hbytes : (n + m) * i.bytes ≤ 140737488355328) {v' : Value} {w' : World} (hr : (Builtin.append_ #[t, t] ty #[v, .slice (some ad) m c]).run P w = .ok v' w') : w.drawn ≤ w'.drawn := by
 have hsmall : n + m ≤ 9223372036854775807 := by simp only [maxLen] at h63; omega
 rcases hown.2 with ⟨rfl, rfl⟩ | ⟨g, cap, cur, rfl, hbg, hg, hnc, hcm, hcs, htake⟩
 ·by_cases hm : m = 0
  ·subst hm
   have h2 : (Builtin.append_ #[t, t] ty #[.slice none 0 0, .slice (some ad) 0 c]).run P w = .ok (.slice none 0 0) w := by
    simp [Builtin.append_, run_underlying ht, sizeOf, typeInfo, hi, Builtin.lenOf, Builtin.firstCells, loadCells, loadCellsFrom]
   rw [h2] at hr
   injection hr with h3 h4
   rw [← h4]; exact Nat.le_refl _
  ·have h2 := run_append_nil (P := P) w t ty e i z ht hi hz ad m c news hl hnews (by omega) (by omega) (by have hb := hbytes; simp only [Nat.zero_add] at hb; omega)
   rw [h2] at hr
   injection hr with h3 h4
   rw [← h4]; exact Nat.le_succ _
 ·by_cases hroom : n + m ≤ cap
  ·have hfit : n * i.size + news.length ≤ cur.size := by rw [hl, hcs, ← Nat.add_mul]; exact Nat.mul_le_mul_right _ hroom
   have h2 := run_append_room (P := P) w t ty e i ht hi g n cap cur hg ad m c news hl hnews h1 hroom hfit
   rw [h2] at hr
   injection hr with h3 h4
   rw [← h4]; exact Nat.le_refl _
  ·have holds : ∀ j u, xs[j]? = some u → w.cell? ((⟨g, 0, none⟩ : Addr).add j) = some u := hown.cells (g := g) rfl
   have h2 := run_append_grow (P := P) w t ty e i z ht hi hz ⟨g, 0, none⟩ n cap xs hown.1 holds ad m c news hl hnews (by omega) (by omega) (growslice_fits (by omega) hbytes)
   rw [h2] at hr
   injection hr with h3 h4
   rw [← h4]; exact Nat.le_succ _
theorem o_append {K : Act → World → Prop} {s x' : Operand} {t e : TypeId} {z : Value} {size bytes : Nat} {v : Value} {n m c bb : Nat} {xs news row : List Value} {l' : Value → List Res} (hinfo : (P.info? e).map (fun i => (i.zero, i.size, i.bytes)) = some (some z, size, bytes))
  (ho : o.op = .call { callee := .builtin .append, args := #[s, x'], argTypes := #[t, t] }) (hs : a.eval s = v) (hx : a.eval x' = .slice (some ⟨bb, 0, none⟩) m c) (H : Own B w0 w l)
  (hm : Res.cells bb row ∈ l) (hrow : row.take (m * size) = news) (hlen : m * size ≤ row.length)
  (hrep : ∀ v', Rep (.grow e size v n xs) (.grow e size v' (n + m) (xs ++ news)) l (l' v')) (ht : P.underlying t = some (.slice e)) (hzs : z.cells.size = size) (hsz : 0 < size) (h1 : news.all (·.oneCell') = true)
  (h63 : n + m ≤ maxLen) (hbytes : (n + m) * bytes ≤ 140737488355328)
  (hk : ∀ v' w', Own B w0 w' (l' v') → (v' = .slice none 0 0 ↔ v = .slice none 0 0 ∧ m = 0) → K (a.put o.dst v') w') : o.wp P a w K Q := by
 cases hi : P.info? e with
 | none => simp [hi] at hinfo
 | some i =>
  simp only [hi, Option.map_some, Option.some.injEq, Prod.mk.injEq] at hinfo
  obtain ⟨hz, rfl, rfl⟩ := hinfo
  have hg := H.holds _ (hrep v).mem
  have hgl := H.lt _ (hrep v).mem
  have hr := (H.range hm at_block)
  have hl : news.length = m * i.size := by rw [← hrow, List.length_take]; omega
  have hnews : ∀ j u, news[j]? = some u → w.cell? ((⟨bb, 0, none⟩ : Addr).add j) = some u := fun j u hu => by rw [Addr.add_mid]; exact hr j u (by rw [← hrow, List.getElem?_take] at hu; split at hu <;> first | exact hu | cases hu)
  have h1' : ∀ u ∈ news, u.oneCell' = true := fun u hu => List.all_eq_true.1 h1 u hu
  obtain ⟨v', w', hrun, hown, hgrow, hnil⟩ := run_append_own (P := P) w 0 t o.type e i z _ _ ht hi hz rfl rfl hzs hsz v n xs hg ⟨bb, 0, none⟩ m c news hl hnews h1' h63 hbytes (Nat.zero_le _)
  have hplace := append_place ht hi hz hg hl hnews h1' h63 hbytes hrun
  unfold Oper.wp execOp
  simp only [ho, resolve, invoke, builtin, Sem.run_bind, Sem.run_pure, Result.andThen_ok, List.map_toArray, List.map_cons, List.map_nil, hs, hx, hrun]
  refine hk v' w' ?_ hnil
  have hold : ∀ k, v.ownBlock = some k → k < w.heap.size ∧ B ≤ k := fun k hk => ⟨(hgl k hk).1, (hgl k hk).2 rfl⟩
  refine H.change (hrep v') rfl rfl (.mk6 hgrow.os hgrow.tape hgrow.output hgrow.size (fun k hk' => hgrow.block k (Nat.lt_of_lt_of_le hk' H.base) (fun e => by have := (hold k e.symm).2; omega)) (append_drawn ht hi hz hg hl hnews h1' h63 hbytes hrun))
   (fun k hk' hne => hgrow.block k hk' (fun e => hne e.symm)) hown (fun k hk' => (hown.lt k hk').2) hplace
end
variable {P : Program} {B : Nat} {w0 w w' : World} {l l' : List Res} {F : Nat → Prop}
def Sl (F : Nat → Prop) (w : World) (A : Option Addr) (xs : List Value) : Prop :=
 ∃ b off, (0 < xs.length → A = some ⟨b, off, none⟩ ∧ b < w.heap.size ∧ ¬ F b) ∧ ∀ j v, xs[j]? = some v → w.cell? ⟨b, off + j, none⟩ = some v
theorem Sl.ext {A : Option Addr} {xs : List Value} (h : Sl F w A xs) (hb : Below w.heap.size w w') : Sl F w' A xs := by
 obtain ⟨b, off, h1, h2⟩ := h
 exact ⟨b, off, fun hp => ⟨(h1 hp).1, Nat.lt_of_lt_of_le (h1 hp).2.1 hb.size, (h1 hp).2.2⟩, fun j v hv => below_cell hb (h2 j v hv)⟩
theorem Sl.nil_ (F : Nat → Prop) (w : World) (A : Option Addr) : Sl F w A [] := ⟨0, 0, by simp, by simp⟩
theorem Sl.fewer {G : Nat → Prop} {A : Option Addr} {xs : List Value} (h : Sl F w A xs) (hG : ∀ k, G k → F k) : Sl G w A xs := by
 obtain ⟨b, off, h1, h2⟩ := h
 exact ⟨b, off, fun hp => ⟨(h1 hp).1, (h1 hp).2.1, fun hg => (h1 hp).2.2 (hG _ hg)⟩, h2⟩
def Wr (l : List Res) (k : Nat) : Prop := ∃ r ∈ l, r.ro = false ∧ r.foot k
theorem Own.wr_lt (H : Own B w0 w l) : ∀ k, Wr l k → k < w.heap.size := fun k ⟨r, hr, _, hk⟩ => (H.lt r hr k hk).1
def FW (F : Nat → Prop) (l : List Res) (k : Nat) : Prop := F k ∨ Wr l k
theorem Own.fw_lt (H : Own B w0 w l) (hB : w0.heap.size = B) (hF : ∀ k, F k → k < w0.heap.size) : ∀ k, FW F l k → k < w.heap.size := fun k h => by
 rcases h with h | h
 ·have := hF k h; have := H.base; omega
 ·exact H.wr_lt k h
theorem Own.addSl {A : Option Addr} {xs : List Value} (H : Own B w0 w l) (h : Sl (FW F l) w A xs) : ∃ b off, Own B w0 w (.rd A b off xs :: l) ∧ (0 < xs.length → ¬ F b) := by
 obtain ⟨b, off, h1, h2⟩ := h
 refine ⟨b, off, H.add _ ⟨fun hp => (h1 hp).1, h2⟩ (fun k hk => ?_) (fun r hr => ?_), fun hp hf => (h1 hp).2.2 (.inl hf)⟩
 ·obtain ⟨rfl, hp⟩ := hk
  exact ⟨(h1 hp).2.1, fun h => by cases h⟩
 ·cases hro : r.ro with
  | true => exact .inl ⟨rfl, rfl⟩
  | false =>
   refine .inr fun k hk hk' => ?_
   obtain ⟨rfl, hp⟩ := hk
   exact (h1 hp).2.2 (.inr ⟨r, hr, hro, hk'⟩)
theorem Own.giveRd {A : Option Addr} {b off : Nat} {xs : List Value} (H : Own B w0 w l) (hm : Res.rd A b off xs ∈ l) (hF : 0 < xs.length → ¬ F b) : Sl (FW F l) w A xs := by
 have h := H.holds _ hm
 refine ⟨b, off, fun hp => ⟨h.1 hp, (H.lt _ hm b ⟨rfl, hp⟩).1, fun hw => ?_⟩, h.2⟩
 rcases hw with hw | ⟨r, hr, hro, hk⟩
 ·exact hF hp hw
 ·have key : ∀ (m : List Res), m.Pairwise (fun r r' => (r.ro = true ∧ r'.ro = true) ∨ ∀ k, r.foot k → ¬ r'.foot k) → Res.rd A b off xs ∈ m → r ∈ m → False := by
   intro m hp'
   induction hp' with
   | nil => intro h; cases h
   | cons h1 h2 ih =>
    rename_i x m'
    intro hx hr'
    rcases List.mem_cons.1 hx with e1 | e1
    ·rcases List.mem_cons.1 hr' with e2 | e2
     ·rw [e2, ← e1] at hro; cases hro
     ·rcases h1 r e2 with h | h
      ·rw [hro] at h; cases h.2
      ·rw [← e1] at h; exact h b ⟨rfl, hp⟩ hk
    ·rcases List.mem_cons.1 hr' with e2 | e2
     ·rcases h1 _ e1 with h | h
      ·rw [← e2, hro] at h; cases h.1
      ·rw [← e2] at h; exact h b hk ⟨rfl, hp⟩
     ·exact ih e1 e2
  exact key l H.apart hm hr
theorem Own.giveGrow {e size n : Nat} {v : Value} {xs : List Value} (H : Own B w0 w l) (hm : Res.grow e size v n xs ∈ l) (hF : ∀ k, F k → k < B) : ∃ A cap, v = .slice A n cap ∧ n ≤ cap ∧ cap ≤ maxLen ∧ Sl F w A xs := by
 have h := H.holds _ hm
 rcases h.2 with ⟨rfl, rfl⟩ | ⟨g, cap, cur, rfl, hbg, hg, hnc, hcm, hcs, htake⟩
 ·refine ⟨none, 0, rfl, Nat.le_refl _, Nat.zero_le _, ?_⟩
  have := h.1
  simp at this
  subst this
  exact Sl.nil_ _ _ _
 ·have hl := H.lt _ hm g rfl
  refine ⟨_, cap, rfl, hnc, hcm, g, 0, fun _ => ⟨rfl, hl.1, fun hf => by have := hF g hf; have := hl.2 rfl; omega⟩, fun j v hv => ?_⟩
  have := h.cells (g := g) rfl j v hv
  rwa [Addr.add_mid] at this
theorem Own.giveCells {b : Nat} {row : List Value} (H : Own B w0 w l) (hm : Res.cells b row ∈ l) (hF : ∀ k, F k → k < B) (off : Nat) {xs : List Value} (hx : (row.drop off).take xs.length = xs) : Sl F w (some ⟨b, off, none⟩) xs := by
 have hl := H.lt _ hm b rfl
 exact ⟨b, off, fun _ => ⟨rfl, hl.1, fun hf => by have := hF b hf; have := hl.2 rfl; omega⟩, H.range (r := .cells b row) hm (b := b) (o := off) ⟨rfl, hx⟩⟩
theorem Sl.take {A : Option Addr} {xs : List Value} (h : Sl F w A xs) (k : Nat) : Sl F w A (xs.take k) := by
 obtain ⟨b, off, h1, h2⟩ := h
 refine ⟨b, off, fun hp => h1 (by simp at hp; omega), fun j v hv => h2 j v ?_⟩
 rw [List.getElem?_take] at hv
 split at hv
 ·exact hv
 ·cases hv
theorem Sl.fw {A : Option Addr} {xs : List Value} (h : Sl (FW F l) w A xs) : Sl F w A xs := h.fewer fun _ h => .inl h
theorem Sl.none_of {A : Option Addr} {xs : List Value} (h : Sl F w A xs) : Sl (fun _ => False) w A xs := h.fewer (fun _ h => h.elim)
theorem Own.rdAddr {A : Option Addr} {b off : Nat} {xs : List Value} (H : Own B w0 w l) (hm : Res.rd A b off xs ∈ l) (hp : 0 < xs.length) : A = some ⟨b, off, none⟩ := (H.holds _ hm).1 hp
theorem Sl.ro {A : Option Addr} {xs : List Value} (h : Sl F w A xs) (hl : l.all (·.ro) = true) : Sl (FW F l) w A xs := h.fewer fun k hk => by
 rcases hk with hk | ⟨r, hr, hro, _⟩
 ·exact hk
 ·rw [List.all_eq_true.1 hl r hr] at hro; cases hro
theorem m10 {r x0 x1 x2 x3 x4 x5 x6 x7 x8 x9 : Res} {l : List Res} : r ∈ x0 :: x1 :: x2 :: x3 :: x4 :: x5 :: x6 :: x7 :: x8 :: x9 :: r :: l := .tail _ m9
theorem m11 {r x0 x1 x2 x3 x4 x5 x6 x7 x8 x9 x10 : Res} {l : List Res} : r ∈ x0 :: x1 :: x2 :: x3 :: x4 :: x5 :: x6 :: x7 :: x8 :: x9 :: x10 :: r :: l := .tail _ m10
theorem m12 {r x0 x1 x2 x3 x4 x5 x6 x7 x8 x9 x10 x11 : Res} {l : List Res} : r ∈ x0 :: x1 :: x2 :: x3 :: x4 :: x5 :: x6 :: x7 :: x8 :: x9 :: x10 :: x11 :: r :: l := .tail _ m11
theorem m13 {r x0 x1 x2 x3 x4 x5 x6 x7 x8 x9 x10 x11 x12 : Res} {l : List Res} : r ∈ x0 :: x1 :: x2 :: x3 :: x4 :: x5 :: x6 :: x7 :: x8 :: x9 :: x10 :: x11 :: x12 :: r :: l := .tail _ m12
theorem r10 {r r' x0 x1 x2 x3 x4 x5 x6 x7 x8 x9 : Res} {l : List Res} : Rep r r' (x0 :: x1 :: x2 :: x3 :: x4 :: x5 :: x6 :: x7 :: x8 :: x9 :: r :: l) (x0 :: x1 :: x2 :: x3 :: x4 :: x5 :: x6 :: x7 :: x8 :: x9 :: r' :: l) := .there r9
theorem r11 {r r' x0 x1 x2 x3 x4 x5 x6 x7 x8 x9 x10 : Res} {l : List Res} : Rep r r' (x0 :: x1 :: x2 :: x3 :: x4 :: x5 :: x6 :: x7 :: x8 :: x9 :: x10 :: r :: l) (x0 :: x1 :: x2 :: x3 :: x4 :: x5 :: x6 :: x7 :: x8 :: x9 :: x10 :: r' :: l) := .there r10
theorem r12 {r r' x0 x1 x2 x3 x4 x5 x6 x7 x8 x9 x10 x11 : Res} {l : List Res} : Rep r r' (x0 :: x1 :: x2 :: x3 :: x4 :: x5 :: x6 :: x7 :: x8 :: x9 :: x10 :: x11 :: r :: l) (x0 :: x1 :: x2 :: x3 :: x4 :: x5 :: x6 :: x7 :: x8 :: x9 :: x10 :: x11 :: r' :: l) := .there r11
theorem r13 {r r' x0 x1 x2 x3 x4 x5 x6 x7 x8 x9 x10 x11 x12 : Res} {l : List Res} : Rep r r' (x0 :: x1 :: x2 :: x3 :: x4 :: x5 :: x6 :: x7 :: x8 :: x9 :: x10 :: x11 :: x12 :: r :: l) (x0 :: x1 :: x2 :: x3 :: x4 :: x5 :: x6 :: x7 :: x8 :: x9 :: x10 :: x11 :: x12 :: r' :: l) := .there r12
theorem r14 {r r' x0 x1 x2 x3 x4 x5 x6 x7 x8 x9 x10 x11 x12 x13 : Res} {l : List Res} : Rep r r' (x0 :: x1 :: x2 :: x3 :: x4 :: x5 :: x6 :: x7 :: x8 :: x9 :: x10 :: x11 :: x12 :: x13 :: r :: l) (x0 :: x1 :: x2 :: x3 :: x4 :: x5 :: x6 :: x7 :: x8 :: x9 :: x10 :: x11 :: x12 :: x13 :: r' :: l) := .there r13
theorem r15 {r r' x0 x1 x2 x3 x4 x5 x6 x7 x8 x9 x10 x11 x12 x13 x14 : Res} {l : List Res} : Rep r r' (x0 :: x1 :: x2 :: x3 :: x4 :: x5 :: x6 :: x7 :: x8 :: x9 :: x10 :: x11 :: x12 :: x13 :: x14 :: r :: l) (x0 :: x1 :: x2 :: x3 :: x4 :: x5 :: x6 :: x7 :: x8 :: x9 :: x10 :: x11 :: x12 :: x13 :: x14 :: r' :: l) := .there r14
theorem r16 {r r' x0 x1 x2 x3 x4 x5 x6 x7 x8 x9 x10 x11 x12 x13 x14 x15 : Res} {l : List Res} : Rep r r' (x0 :: x1 :: x2 :: x3 :: x4 :: x5 :: x6 :: x7 :: x8 :: x9 :: x10 :: x11 :: x12 :: x13 :: x14 :: x15 :: r :: l) (x0 :: x1 :: x2 :: x3 :: x4 :: x5 :: x6 :: x7 :: x8 :: x9 :: x10 :: x11 :: x12 :: x13 :: x14 :: x15 :: r' :: l) := .there r15
theorem r17 {r r' x0 x1 x2 x3 x4 x5 x6 x7 x8 x9 x10 x11 x12 x13 x14 x15 x16 : Res} {l : List Res} : Rep r r' (x0 :: x1 :: x2 :: x3 :: x4 :: x5 :: x6 :: x7 :: x8 :: x9 :: x10 :: x11 :: x12 :: x13 :: x14 :: x15 :: x16 :: r :: l) (x0 :: x1 :: x2 :: x3 :: x4 :: x5 :: x6 :: x7 :: x8 :: x9 :: x10 :: x11 :: x12 :: x13 :: x14 :: x15 :: x16 :: r' :: l) := .there r16
theorem s9 {x0 x1 x2 x3 x4 x5 x6 x7 x8 : Res} {l : List Res} : Suf l (x0 :: x1 :: x2 :: x3 :: x4 :: x5 :: x6 :: x7 :: x8 :: l) := .there s8
theorem s10 {x0 x1 x2 x3 x4 x5 x6 x7 x8 x9 : Res} {l : List Res} : Suf l (x0 :: x1 :: x2 :: x3 :: x4 :: x5 :: x6 :: x7 :: x8 :: x9 :: l) := .there s9
theorem s11 {x0 x1 x2 x3 x4 x5 x6 x7 x8 x9 x10 : Res} {l : List Res} : Suf l (x0 :: x1 :: x2 :: x3 :: x4 :: x5 :: x6 :: x7 :: x8 :: x9 :: x10 :: l) := .there s10
theorem s12 {x0 x1 x2 x3 x4 x5 x6 x7 x8 x9 x10 x11 : Res} {l : List Res} : Suf l (x0 :: x1 :: x2 :: x3 :: x4 :: x5 :: x6 :: x7 :: x8 :: x9 :: x10 :: x11 :: l) := .there s11
theorem s13 {x0 x1 x2 x3 x4 x5 x6 x7 x8 x9 x10 x11 x12 : Res} {l : List Res} : Suf l (x0 :: x1 :: x2 :: x3 :: x4 :: x5 :: x6 :: x7 :: x8 :: x9 :: x10 :: x11 :: x12 :: l) := .there s12
theorem s14 {x0 x1 x2 x3 x4 x5 x6 x7 x8 x9 x10 x11 x12 x13 : Res} {l : List Res} : Suf l (x0 :: x1 :: x2 :: x3 :: x4 :: x5 :: x6 :: x7 :: x8 :: x9 :: x10 :: x11 :: x12 :: x13 :: l) := .there s13
variable {B : Nat} {w0 w w' : World} {l l' : List Res} {F : Nat → Prop}
theorem Own.sep (H : Own B w0 w l) {r1 r2 : Res} (h1 : r1 ∈ l) (h2 : r2 ∈ l) (hr1 : r1.ro = true) (hr2 : r2.ro = false) : ∀ k, r1.foot k → ¬ r2.foot k := by
 have key : ∀ (m : List Res), m.Pairwise (fun r r' => (r.ro = true ∧ r'.ro = true) ∨ ∀ k, r.foot k → ¬ r'.foot k) → r1 ∈ m → r2 ∈ m → ∀ k, r1.foot k → ¬ r2.foot k := by
  intro m hp
  induction hp with
  | nil => intro h; cases h
  | cons h1 h2 ih =>
   rename_i x m'
   intro hx hr k hk
   rcases List.mem_cons.1 hx with e1 | e1
   ·rcases List.mem_cons.1 hr with e2 | e2
    ·rw [e1, ← e2, hr2] at hr1; cases hr1
    ·rcases h1 r2 e2 with h | h
     ·rw [hr2] at h; cases h.2
     ·rw [← e1] at h; exact h k hk
   ·rcases List.mem_cons.1 hr with e2 | e2
    ·rcases h1 _ e1 with h | h
     ·rw [← e2, hr2] at h; cases h.1
     ·rw [← e2] at h; exact fun h2 => h k h2 hk
    ·exact ih e1 e2 k hk
 exact key l H.apart h1 h2
theorem Own.addRo (H : Own B w0 w l) (r : Res) (hr : r.ro = true) (h : r.holds w) (hf : ∀ k, r.foot k → ∃ r' ∈ l, r'.ro = true ∧ r'.foot k) : Own B w0 w (r :: l) := by
 refine H.add r h (fun k hk => ?_) (fun r' hr' => ?_)
 ·obtain ⟨r', h1, h2, h3⟩ := hf k hk
  exact ⟨(H.lt r' h1 k h3).1, fun h => by rw [hr] at h; cases h⟩
 ·cases hro : r'.ro with
  | true => exact .inl ⟨hr, rfl⟩
  | false =>
   refine .inr fun k hk => ?_
   obtain ⟨q, h1, h2, h3⟩ := hf k hk
   exact H.sep h1 hr' h2 hro k h3
theorem Own.copy (H : Own B w0 w l) {r : Res} (hm : r ∈ l) (hr : r.ro = true) : Own B w0 w (r :: l) := H.addRo r hr (H.holds r hm) fun k hk => ⟨r, hm, hr, hk⟩
theorem Own.rdNil (H : Own B w0 w l) (A : Option Addr) (b off : Nat) : Own B w0 w (.rd A b off [] :: l) := H.addRo _ rfl ⟨by simp, by simp⟩ fun k hk => absurd hk.2 (by simp)
structure Rw where
 A : Option Addr
 b : Nat
 off : Nat
 xs : List Value
 c : Nat
def Rw.foot (r : Rw) (k : Nat) : Prop := k = r.b ∧ 0 < r.xs.length
def Rw.val (r : Rw) : Value := .slice r.A r.xs.length r.c
def rwsP (L : List Rw) (w : World) : Prop := ∀ r ∈ L, (0 < r.xs.length → r.A = some ⟨r.b, r.off, none⟩) ∧ ∀ j v, r.xs[j]? = some v → w.cell? ⟨r.b, r.off + j, none⟩ = some v
def rws (L : List Rw) : Res := .any true (fun k => ∃ r ∈ L, r.foot k) (rwsP L)
theorem rwsP_stable {L : List Rw} (h : rwsP L w) (hw : ∀ k, (∃ r ∈ L, r.foot k) → w'.heap[k]? = w.heap[k]?) : rwsP L w' := by
 intro r hr
 refine ⟨(h r hr).1, fun j v hv => ?_⟩
 have hp : 0 < r.xs.length := Nat.lt_of_le_of_lt (Nat.zero_le _) (List.getElem?_eq_some_iff.1 hv).1
 rw [World.cell?_of_block (w := w) (hw r.b ⟨r, hr, rfl, hp⟩)]
 exact (h r hr).2 j v hv
theorem rws_holds {L : List Rw} (h : rwsP L w) : (rws L).holds w := fun w' hw' => rwsP_stable h hw'
theorem Own.rws_out (H : Own B w0 w l) {L : List Rw} (hm : rws L ∈ l) : rwsP L w := H.holds _ hm w fun _ _ => rfl
theorem Own.rws_nil (H : Own B w0 w l) : Own B w0 w (rws [] :: l) := H.addRo _ rfl (rws_holds fun _ h => by cases h) (fun k ⟨r, h, _⟩ => by cases h)
theorem Own.pick (H : Own B w0 w l) {L : List Rw} (hm : rws L ∈ l) {r : Rw} (hr : r ∈ L) : Own B w0 w (.rd r.A r.b r.off r.xs :: l) :=
 H.addRo _ rfl (H.rws_out hm r hr) fun k hk => ⟨_, hm, rfl, r, hr, hk⟩
theorem Own.push (H : Own B w0 w l) {L : List Rw} (hm : rws L ∈ l) {A : Option Addr} {b off : Nat} {xs : List Value} (hr : .rd A b off xs ∈ l) (c : Nat) : Own B w0 w (rws (L ++ [⟨A, b, off, xs, c⟩]) :: l) := by
 refine H.addRo _ rfl (rws_holds fun r hr' => ?_) fun k hk => ?_
 ·rcases List.mem_append.1 hr' with h | h
  ·exact H.rws_out hm r h
  ·obtain rfl := List.mem_singleton.1 h
   exact H.holds _ hr
 ·obtain ⟨r, h, hf⟩ := hk
  rcases List.mem_append.1 h with h | h
  ·exact ⟨_, hm, rfl, r, h, hf⟩
  ·obtain rfl := List.mem_singleton.1 h
   exact ⟨_, hr, rfl, hf⟩
theorem Own.growRd {e size n : Nat} {v : Value} {xs : List Value} (H : Own B w0 w (.grow e size v n xs :: l)) : ∃ A b cap, v = .slice A n cap ∧ n ≤ cap ∧ cap ≤ maxLen ∧ Own B w0 w (.rd A b 0 xs :: l) ∧ (0 < xs.length → B ≤ b) := by
 have h := H.holds _ m0
 rcases h.2 with ⟨rfl, rfl⟩ | ⟨g, cap, cur, rfl, hbg, hg, hnc, hcm, hcs, htake⟩
 ·have hx := h.1
  simp at hx
  subst hx
  exact ⟨none, 0, 0, rfl, Nat.le_refl _, Nat.zero_le _, H.tail.addRo _ rfl ⟨by simp, by simp⟩ (fun k hk => absurd hk.2 (by simp)), fun h => by simp at h⟩
 ·have hl := H.lt _ m0 g rfl
  refine ⟨some ⟨g, 0, none⟩, g, cap, rfl, hnc, hcm, ?_, fun _ => hl.2 rfl⟩
  refine H.tail.add _ ⟨fun _ => rfl, fun j v hv => ?_⟩ (fun k hk => ⟨?_, fun h => by cases h⟩) (fun r' hr' => ?_)
  ·have := h.cells (g := g) rfl j v hv
   rwa [Addr.add_mid] at this
  ·obtain ⟨rfl, _⟩ := hk; exact hl.1
  ·rcases (List.pairwise_cons.1 H.apart).1 r' hr' with h' | h'
   ·exact absurd h'.1 (by simp [Res.ro])
   ·refine .inr fun k hk => ?_
    obtain ⟨rfl, _⟩ := hk
    exact h' k rfl
end Go.Proofs.YtlhmjhildlnokaaGreat
