/-
  The walk of the document's layer 21: croftref21.Find, at a right plan.
-/
import Derived.Test.YtlhmjhildlnokaaGreatMd6b25c4b
import Derived.Test.YtlhmjhildlnokaaGreatM1e5483af
import Derived.Test.YtlhmjhildlnokaaGreatM96238f79
namespace Go.Proofs.YtlhmjhildlnokaaGreat
set_option linter.unusedVariables false
set_option linter.unusedSimpArgs false
open Go.RowKit
theorem ref21cx1 {P Q : Prop} (k : Q) (h : Hold Q → P := by (intro kk; guard_target = wpTreeA _ _ _ _ _ _ (TrA.q _ _) _ _; refine treeA_quiet (aK H) rfl rfl rfl (fun K hK => ?_); simp only [List.getElem_toArray, List.getElem_cons_succ, List.getElem_cons_zero]; (first | (guard_target = Oper.quiet _ (Oper.mk _ (.load _ _) _ _ _ _) _ _ _; (first | (refine q_loadPt (n := ?_) (d := ?_) rfl rfl ?_ ?_ ?_ (hK _ ?_); rotate_left 2; (repeat first | exact .head _ | apply List.Mem.tail); (focus (intro _; simp; done)); (focus (intro _; simp; done)))); clear hK K; simp only [Act.put, List.setIfInBounds_toArray, List.set_cons_succ, List.set_cons_zero])); exact kk.out)) : P := h ⟨k⟩
theorem ref21cx2 {P Q : Prop} (k : Q) (h : Hold Q → P := by (intro kk; guard_target = wpTreeA _ _ _ _ _ _ (TrA.q _ _) _ _; (first | (refine treeA_quiet (aK H) rfl rfl rfl (fun K hK => ?_); simp only [List.getElem_toArray, List.getElem_cons_succ, List.getElem_cons_zero]; (first | (guard_target = Oper.quiet _ (Oper.mk _ (.load _ _) _ _ _ _) _ _ _; (first | ((with_reducible refine q_load (v := ?_) (r := ?_) (ty := ?_) (x := ?_) (b := ?_) (off := ?_) ?_ ?_ ?_ ?_ ?_ (hK _ ?_)); rotate_left 6; exact rfl; exact rfl; (with_reducible assumption); (repeat first | exact .head _ | apply List.Mem.tail); (focus (intro _; simp; done))) | ((with_reducible refine q_loadC (v := ?_) (row := ?_) (ty := ?_) (x := ?_) (b := ?_) (off := ?_) ?_ ?_ ?_ ?_ ?_ (hK _ ?_)); rotate_left 6; exact rfl; exact rfl; (repeat first | exact .head _ | apply List.Mem.tail); (first | exact rfl | with_reducible assumption); (focus (intro _; simp; done))) | ((with_reducible refine q_loadN (cs := ?_) (r := ?_) (ty := ?_) (x := ?_) (b := ?_) (off := ?_) ?_ ?_ ?_ ?_ ?_ ?_ (hK _ ?_)); rotate_left 6; exact rfl; exact rfl; (with_reducible assumption); (repeat first | exact .head _ | apply List.Mem.tail); (focus (intro _; simp; done)); (focus (intro _; simp; done))) | ((with_reducible refine q_loadNC (row := ?_) (ty := ?_) (x := ?_) (b := ?_) ?_ ?_ ?_ ?_ ?_ (hK _ ?_)); rotate_left 4; exact rfl; exact rfl; (repeat first | exact .head _ | apply List.Mem.tail); (focus (intro _; simp; done)); (focus (intro _; simp; done)))); clear hK K; simp only [Act.put, List.setIfInBounds_toArray, List.set_cons_succ, List.set_cons_zero]) | (go_big_quiet_op; (try refine ⟨_, fun _ _ => rfl, ?_⟩); refine hK _ ?_; clear hK K))) | (refine treeA_skip (aK H) rfl rfl ?_; simp only [List.getElem_toArray, List.getElem_cons_succ, List.getElem_cons_zero, Act.put, List.setIfInBounds_toArray, List.set_cons_succ, List.set_cons_zero])); exact kk.out)) : P := h ⟨k⟩
theorem ref21cx3 {P Q : Prop} (k : Q) (h : Hold Q → P := by (intro kk; guard_target = wpTreeA _ _ _ _ _ _ (TrA.q _ _) _ _; (with_reducible refine treeA_call (v := ?_) (o := ?_) (aK H) ?_ ?_ (fun w3 H K hK => ?_) ?_); rotate_left 2; exact rfl; exact rfl; (focus (simp only [List.getElem_toArray, List.getElem_cons_succ, List.getElem_cons_zero]; go_big_op; exact aE)); simp only [List.getElem_toArray, List.getElem_cons_succ, List.getElem_cons_zero, Act.put, List.setIfInBounds_toArray, List.set_cons_succ, List.set_cons_zero]; exact kk.out)) : P := h ⟨k⟩
theorem ref21cg4 {P Q : Prop} (k : Q) (h : Hold Q → P := by (intro kk; (first | (guard_target = wpList _ _ _ (Oper.mk _ (.load _ _) _ _ _ _ :: _) _ _; exact a57b8f64 kk.out) | (guard_target = wpList _ _ _ (Oper.mk _ (.load _ _) _ _ _ _ :: _) _ _; exact a15dc6b3 kk.out) | (guard_target = wpTreeC _ _ _ (Tr.q _ _) _ _ _; exact a9008c5c kk.out) | (guard_target = wpTreeC _ _ _ (Tr.q _ _) _ _ _; exact a9e94fc6 kk.out) | (guard_target = wpTreeC _ _ _ (Tr.q _ _) _ _ _; exact a78e8504 kk.out) | (guard_target = wpTreeA _ _ _ _ _ _ (TrA.q _ _) _ _; exact ref21cx1 kk.out) | (guard_target = wpTreeA _ _ _ _ _ _ (TrA.q _ _) _ _; exact ref21cx2 kk.out) | (guard_target = wpTreeA _ _ _ _ _ _ (TrA.q _ _) _ _; exact ref21cx3 kk.out)))) : P := h ⟨k⟩
theorem ref21cx5 {P Q : Prop} (k : Q) (h : Hold Q → P := by (intro kk; guard_target = wpTreeA _ _ _ _ _ _ (TrA.e _ TrA.nil) _ _; refine treeA_last (by decide +kernel) H rfl rfl (fun w3 H2 K hK => ?_); simp only [List.getElem_toArray, List.getElem_cons_succ, List.getElem_cons_zero]; guard_target = Oper.wp _ (Oper.mk _ (.store _ _ _) _ _ _ _) _ _ _ _; (with_reducible refine o_store (l' := ?_) (row := ?_) (ty := ?_) (x := ?_) (y := ?_) (b := ?_) (off := ?_) (vs := ?_) ?_ ?_ H2 ?_ ?_ ?_ ?_ ?_ (fun w4 H3 => hK _ _ ?_)); rotate_left 8; exact rfl; exact rfl; exact rfl; (first | exact r0 | exact r1 | exact r2 | exact r3 | exact r4 | exact r5 | exact r6 | exact r7 | exact r8 | exact r9 | exact r10 | exact r11 | exact r12 | exact r13 | exact r14 | exact r15); (focus (intro _; simp [Act.eval, Value.cells]; done)); (focus (first | (simp [Act.eval, Value.cells]; done) | ((try simp [Act.eval, Value.cells]); omega))); (first | exact rfl | (focus (simp [Act.eval, Value.cells]; done))); clear hK K; simp [Act.eval, Value.cells, setL, List.getD] at H3; simp only [Act.put, List.setIfInBounds_toArray, List.set_cons_succ, List.set_cons_zero]; revert H3; revert w4; exact kk.out)) : P := h ⟨k⟩
theorem ref21cx6 {P Q : Prop} (k : Q) (h : Hold Q → P := by (intro kk; guard_target = wpTreeA _ _ _ _ _ _ (TrA.e _ TrA.nil) _ _; refine treeA_last (by decide +kernel) H rfl rfl (fun w3 H2 K hK => ?_); simp only [List.getElem_toArray, List.getElem_cons_succ, List.getElem_cons_zero]; guard_target = Oper.wp _ (Oper.mk _ (.load _ _) _ _ _ _) _ _ _ _; (first | (refine o_loadPt (n := ?_) (d := ?_) rfl rfl H2 ?_ ?_ ?_ (hK _ _ ?_); rotate_left 2; (repeat first | exact .head _ | apply List.Mem.tail); (focus (intro _; simp; done)); (focus (intro _; simp; done)))); clear hK K; simp only [Act.put, List.setIfInBounds_toArray, List.set_cons_succ, List.set_cons_zero]; revert H2; revert w3; exact kk.out)) : P := h ⟨k⟩
theorem ref21cx7 {P Q : Prop} (k : Q) (h : Hold Q → P := by (intro kk; guard_target = wpTreeA _ _ _ _ _ _ (TrA.e _ TrA.nil) _ _; refine treeA_last (by decide +kernel) H rfl rfl (fun w3 H2 K hK => ?_); simp only [List.getElem_toArray, List.getElem_cons_succ, List.getElem_cons_zero]; guard_target = Oper.wp _ (Oper.mk _ (.load _ _) _ _ _ _) _ _ _ _; (first | ((with_reducible refine o_load (v := ?_) (r := ?_) (ty := ?_) (x := ?_) (b := ?_) (off := ?_) ?_ ?_ H2 ?_ ?_ ?_ (hK _ _ ?_)); rotate_left 6; exact rfl; exact rfl; (with_reducible assumption); (repeat first | exact .head _ | apply List.Mem.tail); (focus (intro _; simp; done))) | ((with_reducible refine o_loadC (v := ?_) (row := ?_) (ty := ?_) (x := ?_) (b := ?_) (off := ?_) ?_ ?_ H2 ?_ ?_ ?_ (hK _ _ ?_)); rotate_left 6; exact rfl; exact rfl; (repeat first | exact .head _ | apply List.Mem.tail); (first | exact rfl | with_reducible assumption); (focus (intro _; simp; done))) | ((with_reducible refine o_loadN (cs := ?_) (r := ?_) (ty := ?_) (x := ?_) (b := ?_) (off := ?_) ?_ ?_ H2 ?_ ?_ ?_ ?_ (hK _ _ ?_)); rotate_left 6; exact rfl; exact rfl; (with_reducible assumption); (repeat first | exact .head _ | apply List.Mem.tail); (focus (intro _; simp; done)); (focus (intro _; simp; done))) | ((with_reducible refine o_loadNC (row := ?_) (ty := ?_) (x := ?_) (b := ?_) ?_ ?_ H2 ?_ ?_ ?_ (hK _ _ ?_)); rotate_left 4; exact rfl; exact rfl; (repeat first | exact .head _ | apply List.Mem.tail); (focus (intro _; simp; done)); (focus (intro _; simp; done)))); clear hK K; simp only [Act.put, List.setIfInBounds_toArray, List.set_cons_succ, List.set_cons_zero]; revert H2; revert w3; exact kk.out)) : P := h ⟨k⟩
theorem ref21cx8 {P Q : Prop} (k : Q) (h : Hold Q → P := by (intro kk; guard_target = wpTreeA _ _ _ _ _ _ (TrA.e _ _) _ _; refine treeA_one H rfl rfl (fun w3 H2 K hK => ?_); simp only [List.getElem_toArray, List.getElem_cons_succ, List.getElem_cons_zero]; guard_target = Oper.wp _ (Oper.mk _ (.store _ _ _) _ _ _ _) _ _ _ _; (with_reducible refine o_store (l' := ?_) (row := ?_) (ty := ?_) (x := ?_) (y := ?_) (b := ?_) (off := ?_) (vs := ?_) ?_ ?_ H2 ?_ ?_ ?_ ?_ ?_ (fun w4 H3 => hK _ _ (aM H3 ?_) ?_)); rotate_left 8; exact rfl; exact rfl; exact rfl; (first | exact r0 | exact r1 | exact r2 | exact r3 | exact r4 | exact r5 | exact r6 | exact r7 | exact r8 | exact r9 | exact r10 | exact r11 | exact r12 | exact r13 | exact r14 | exact r15); (focus (intro _; simp [Act.eval, Value.cells]; done)); (focus (first | (simp [Act.eval, Value.cells]; done) | ((try simp [Act.eval, Value.cells]); omega))); (first | exact rfl | (focus (simp [Act.eval, Value.cells]; done))); (first | (guard_target = Suf _ _; repeat first | exact .here | apply Suf.there) | (rotate_left; repeat first | exact .here | apply Suf.there)); clear hK K; simp [Act.eval, Value.cells, setL, List.getD] at H3; simp only [Act.put, List.setIfInBounds_toArray, List.set_cons_succ, List.set_cons_zero]; revert H3; revert w4; exact kk.out)) : P := h ⟨k⟩
theorem ref21cx9 {P Q : Prop} (k : Q) (h : Hold Q → P := by (intro kk; guard_target = wpTreeA _ _ _ _ _ _ (TrA.e _ _) _ _; refine treeA_one H rfl rfl (fun w3 H2 K hK => ?_); simp only [List.getElem_toArray, List.getElem_cons_succ, List.getElem_cons_zero]; guard_target = Oper.wp _ (Oper.mk _ (.load _ _) _ _ _ _) _ _ _ _; (first | (refine o_loadPt (n := ?_) (d := ?_) rfl rfl H2 ?_ ?_ ?_ (hK _ _ (aK H2) ?_); rotate_left 2; (repeat first | exact .head _ | apply List.Mem.tail); (focus (intro _; simp; done)); (focus (intro _; simp; done)))); clear hK K; simp only [Act.put, List.setIfInBounds_toArray, List.set_cons_succ, List.set_cons_zero]; revert H2; revert w3; exact kk.out)) : P := h ⟨k⟩
theorem ref21cx10 {P Q : Prop} (k : Q) (h : Hold Q → P := by (intro kk; guard_target = wpTreeA _ _ _ _ _ _ (TrA.e _ _) _ _; refine treeA_one H rfl rfl (fun w3 H2 K hK => ?_); simp only [List.getElem_toArray, List.getElem_cons_succ, List.getElem_cons_zero]; guard_target = Oper.wp _ (Oper.mk _ (.load _ _) _ _ _ _) _ _ _ _; (first | ((with_reducible refine o_load (v := ?_) (r := ?_) (ty := ?_) (x := ?_) (b := ?_) (off := ?_) ?_ ?_ H2 ?_ ?_ ?_ (hK _ _ (aK H2) ?_)); rotate_left 6; exact rfl; exact rfl; (with_reducible assumption); (repeat first | exact .head _ | apply List.Mem.tail); (focus (intro _; simp; done))) | ((with_reducible refine o_loadC (v := ?_) (row := ?_) (ty := ?_) (x := ?_) (b := ?_) (off := ?_) ?_ ?_ H2 ?_ ?_ ?_ (hK _ _ (aK H2) ?_)); rotate_left 6; exact rfl; exact rfl; (repeat first | exact .head _ | apply List.Mem.tail); (first | exact rfl | with_reducible assumption); (focus (intro _; simp; done))) | ((with_reducible refine o_loadN (cs := ?_) (r := ?_) (ty := ?_) (x := ?_) (b := ?_) (off := ?_) ?_ ?_ H2 ?_ ?_ ?_ ?_ (hK _ _ (aK H2) ?_)); rotate_left 6; exact rfl; exact rfl; (with_reducible assumption); (repeat first | exact .head _ | apply List.Mem.tail); (focus (intro _; simp; done)); (focus (intro _; simp; done))) | ((with_reducible refine o_loadNC (row := ?_) (ty := ?_) (x := ?_) (b := ?_) ?_ ?_ H2 ?_ ?_ ?_ (hK _ _ (aK H2) ?_)); rotate_left 4; exact rfl; exact rfl; (repeat first | exact .head _ | apply List.Mem.tail); (focus (intro _; simp; done)); (focus (intro _; simp; done)))); clear hK K; simp only [Act.put, List.setIfInBounds_toArray, List.set_cons_succ, List.set_cons_zero]; revert H2; revert w3; exact kk.out)) : P := h ⟨k⟩
theorem ref21cx11 {P Q : Prop} (k : Q) (h : Hold Q → P := by (intro kk; guard_target = wpTreeA _ _ _ _ _ _ (TrA.e _ _) _ _; refine treeA_one_skip (fun w3 hx => aK (H.ext hx)) rfl rfl (fun w3 hx => ?_); have H2 := H.ext hx; clear hx; simp only [List.getElem_toArray, List.getElem_cons_succ, List.getElem_cons_zero, Act.put, List.setIfInBounds_toArray, List.set_cons_succ, List.set_cons_zero]; revert H2; revert w3; exact kk.out)) : P := h ⟨k⟩
theorem ref21cg12 {P Q : Prop} (k : Q) (h : Hold Q → P := by (intro kk; (first | (guard_target = wpList _ _ _ (Oper.mk _ (.store _ _ _) _ _ _ _ :: _) _ _; exact a181aa22 kk.out) | (guard_target = wpTreeC _ _ _ (Tr.e _ Tr.nil) _ _ _; exact a181f754 kk.out) | (guard_target = wpTreeC _ _ _ (Tr.e _ Tr.nil) _ _ _; exact a03c6532 kk.out) | (guard_target = wpTreeC _ _ _ (Tr.e _ Tr.nil) _ _ _; exact adafe314 kk.out) | (guard_target = wpTreeC _ _ _ (Tr.e _ _) _ _ _; exact a447b417 kk.out) | (guard_target = wpTreeC _ _ _ (Tr.e _ _) _ _ _; exact a56182ca kk.out) | (guard_target = wpTreeC _ _ _ (Tr.e _ _) _ _ _; exact a9cc9575 kk.out) | (guard_target = wpTreeC _ _ _ (Tr.e _ _) _ _ _; exact ac5de4b8 kk.out) | (guard_target = wpTreeA _ _ _ _ _ _ (TrA.e _ TrA.nil) _ _; exact ref21cx5 kk.out) | (guard_target = wpTreeA _ _ _ _ _ _ (TrA.e _ TrA.nil) _ _; exact ref21cx6 kk.out) | (guard_target = wpTreeA _ _ _ _ _ _ (TrA.e _ TrA.nil) _ _; exact ref21cx7 kk.out) | (guard_target = wpTreeA _ _ _ _ _ _ (TrA.e _ _) _ _; exact ref21cx8 kk.out) | (guard_target = wpTreeA _ _ _ _ _ _ (TrA.e _ _) _ _; exact ref21cx9 kk.out) | (guard_target = wpTreeA _ _ _ _ _ _ (TrA.e _ _) _ _; exact ref21cx10 kk.out) | (guard_target = wpTreeA _ _ _ _ _ _ (TrA.e _ _) _ _; exact ref21cx11 kk.out)))) : P := h ⟨k⟩
theorem ref21cx13 {P Q : Prop} (k : Q) (h : Hold Q → P := by (intro kk; guard_target = wpTreeA _ _ _ _ _ _ (TrA.e _ TrA.nil) _ _; refine treeA_last (by decide +kernel) H rfl rfl (fun w3 H2 K hK => ?_); simp only [List.getElem_toArray, List.getElem_cons_succ, List.getElem_cons_zero]; (first | (guard_target = Oper.wp _ (Oper.mk _ (.alloc _) _ _ _ _) _ _ _ _; refine o_alloc (z := ?_) rfl ?_ H2 rfl (fun w4 b2 he H3 => hK _ _ ?_); rotate_left 1; (focus (intro _; simp; with_reducible exact rfl))) | (guard_target = Oper.wp _ (Oper.mk _ (.box _ _) _ _ _ _) _ _ _ _; (with_reducible refine o_box (ty := ?_) (x := ?_) (row := ?_) ?_ H2 ?_ (fun w4 b2 he H3 => hK _ _ ?_)); rotate_left 3; exact rfl; exact rfl) | (guard_target = Oper.wp _ (Oper.mk _ (.buildSlice _ _ _) _ _ _ _) _ _ _ _; refine o_buildSlice (C := ?_) (E := ?_) rfl rfl H2 ?_ rfl (fun w4 b2 he H3 => hK _ _ ?_); rotate_left 2; (focus (intro _; simp [go_sem, Instr.buildSlice]; with_reducible exact rfl)))); clear hK K he; simp [Act.eval, Value.cells, setL, List.getD] at H3; simp only [Act.put, List.setIfInBounds_toArray, List.set_cons_succ, List.set_cons_zero]; revert H3; revert w4; revert b2; exact kk.out)) : P := h ⟨k⟩
theorem ref21cx14 {P Q : Prop} (k : Q) (h : Hold Q → P := by (intro kk; guard_target = wpTreeA _ _ _ _ _ _ (TrA.e _ _) _ _; refine treeA_one H rfl rfl (fun w3 H2 K hK => ?_); simp only [List.getElem_toArray, List.getElem_cons_succ, List.getElem_cons_zero]; (first | (guard_target = Oper.wp _ (Oper.mk _ (.alloc _) _ _ _ _) _ _ _ _; refine o_alloc (z := ?_) rfl ?_ H2 rfl (fun w4 b2 he H3 => hK _ _ (aM H3 ?_) ?_); rotate_left 1; (focus (intro _; simp; with_reducible exact rfl))) | (guard_target = Oper.wp _ (Oper.mk _ (.box _ _) _ _ _ _) _ _ _ _; (with_reducible refine o_box (ty := ?_) (x := ?_) (row := ?_) ?_ H2 ?_ (fun w4 b2 he H3 => hK _ _ (aM H3 ?_) ?_)); rotate_left 3; exact rfl; exact rfl) | (guard_target = Oper.wp _ (Oper.mk _ (.buildSlice _ _ _) _ _ _ _) _ _ _ _; refine o_buildSlice (C := ?_) (E := ?_) rfl rfl H2 ?_ rfl (fun w4 b2 he H3 => hK _ _ (aM H3 ?_) ?_); rotate_left 2; (focus (intro _; simp [go_sem, Instr.buildSlice]; with_reducible exact rfl)))); (first | (guard_target = Suf _ _; repeat first | exact .here | apply Suf.there) | (rotate_left; repeat first | exact .here | apply Suf.there)); clear hK K he; simp [Act.eval, Value.cells, setL, List.getD] at H3; simp only [Act.put, List.setIfInBounds_toArray, List.set_cons_succ, List.set_cons_zero]; revert H3; revert w4; revert b2; exact kk.out)) : P := h ⟨k⟩
theorem ref21cg15 {P Q : Prop} (k : Q) (h : Hold Q → P := by (intro kk; (first | (exact a9475ade kk.out) | (guard_target = wpTreeC _ _ _ (Tr.e _ Tr.nil) _ _ _; exact afdc1f1b kk.out) | (guard_target = wpTreeC _ _ _ (Tr.e _ _) _ _ _; exact a38b0190 kk.out) | (guard_target = wpTreeA _ _ _ _ _ _ (TrA.e _ TrA.nil) _ _; exact ref21cx13 kk.out) | (guard_target = wpTreeA _ _ _ _ _ _ (TrA.e _ _) _ _; exact ref21cx14 kk.out)))) : P := h ⟨k⟩
theorem ref21cx16 {P Q : Prop} (k : Q) (h : Hold Q → P := by (intro kk; guard_target = wpTreeA _ _ _ _ _ _ (TrA.e _ _) _ _; refine treeA_one H rfl rfl (fun w3 H2 K hK => ?_); simp only [List.getElem_toArray, List.getElem_cons_succ, List.getElem_cons_zero]; go_big_op; refine hK _ _ (aK H2) ?_; clear hK K; (try simp only [Act.put, List.setIfInBounds_toArray, List.set_cons_succ, List.set_cons_zero]); revert H2; revert w3; exact kk.out)) : P := h ⟨k⟩
theorem ref21cg17 {P Q : Prop} (k : Q) (h : Hold Q → P := by (intro kk; (first | (guard_target = wpTreeC _ _ _ (Tr.e _ _) _ _ _; exact a9d8d0a4 kk.out) | (guard_target = wpTreeA _ _ _ _ _ _ (TrA.e _ _) _ _; exact ref21cx16 kk.out)))) : P := h ⟨k⟩
theorem ref21cr1 {P Q : Prop} (k : Q) (h : Hold Q → InR 14 0 (.q 0 (.q 1 (.q 2 (.q 3 (.q 4 (.q 5 (.q 6 (.q 7 (.q 8 (.q 9 (.q 10 (.q 11 (.q 12 (.q 13 (.q 14 (.q 15 (.q 16 .nil))))))))))))))))) P := by exact aRC0) : P := h ⟨k⟩
def findD (vs : List Vt) (es : List Eg) (q : Pt) : Int × Int × Int :=
  if inB q = false then (0, 0, 5) else if (es.any fun e => endB (sgE vs e) q) = true then (0, 0, 7) else ((refSpot vs es q).1, (refSpot vs es q).2, 0)
def bestI : Option Nat → Int
  | none => -1
  | some k => (k : Int)
theorem on_next {vs : List Vt} {es : List Eg} {q : Pt} {j : Nat} {e : Eg} (he : es[j]? = some e) : onS vs es q (j + 1) = if onR q (sgE vs e).a (sgE vs e).b = true then e.id else onS vs es q j := by
  conv => lhs; unfold onS
  rw [he]
theorem best_cases {vs : List Vt} {es : List Eg} {q : Pt} (H : RightP vs es) (iq : InP q) {j : Nat} {e : Eg} (he : es[j]? = some e) :
    (lessB (sgE vs e).a q = false ∧ bestS vs es q (j + 1) = bestS vs es q j) ∨
    (lessB (sgE vs e).a q = true ∧ lessB q (sgE vs e).b = false ∧ bestS vs es q (j + 1) = bestS vs es q j) ∨
    (lessB (sgE vs e).a q = true ∧ lessB q (sgE vs e).b = true ∧ decide (turnZ (sgE vs e).a (sgE vs e).b q ≤ 0) = true ∧ bestS vs es q (j + 1) = bestS vs es q j) ∨
    (lessB (sgE vs e).a q = true ∧ lessB q (sgE vs e).b = true ∧ decide (turnZ (sgE vs e).a (sgE vs e).b q ≤ 0) = false ∧ bestS vs es q j = none ∧ bestS vs es q (j + 1) = some j) ∨
    ∃ b f, lessB (sgE vs e).a q = true ∧ lessB q (sgE vs e).b = true ∧ decide (turnZ (sgE vs e).a (sgE vs e).b q ≤ 0) = false ∧ bestS vs es q j = some b ∧ es[b]? = some f ∧ candB (sgE vs e) q = true ∧ candB (sgE vs f) q = true ∧
      (higherB (sgE vs e) (sgE vs f) q.x = true ∧ bestS vs es q (j + 1) = some j ∨ higherB (sgE vs e) (sgE vs f) q.x = false ∧ bestS vs es q (j + 1) = some b) := by
  have hj : j ≤ es.length := Nat.le_of_lt (List.getElem?_eq_some_iff.1 he).1
  have hT := best_top H iq (edgeL_ok H) j hj
  have n1 : candB (sgE vs e) q = false → bestS vs es q (j + 1) = bestS vs es q j := fun h => by
    conv => lhs; unfold bestS
    simp [he, h]
  have n2 : candB (sgE vs e) q = true → bestS vs es q j = none → bestS vs es q (j + 1) = some j := fun h hb => by
    conv => lhs; unfold bestS
    simp [he, h, hb]
  have n3 : ∀ b f, candB (sgE vs e) q = true → bestS vs es q j = some b → es[b]? = some f → bestS vs es q (j + 1) = if higherB (sgE vs e) (sgE vs f) q.x = true then some j else some b := fun b f h hb hf => by
    conv => lhs; unfold bestS
    simp only [he, h, hb, hf, if_true]
  have hc : candB (sgE vs e) q = (lessB (sgE vs e).a q && (lessB q (sgE vs e).b && decide (0 < turnZ (sgE vs e).a (sgE vs e).b q))) := rfl
  generalize turnZ (sgE vs e).a (sgE vs e).b q = t at hc ⊢
  cases h1 : lessB (sgE vs e).a q with
  | false =>
    rw [h1] at hc
    simp only [Bool.false_and] at hc
    exact .inl ⟨rfl, n1 hc⟩
  | true =>
    cases h2 : lessB q (sgE vs e).b with
    | false =>
      rw [h1, h2] at hc
      simp only [Bool.false_and, Bool.and_false] at hc
      exact .inr (.inl ⟨rfl, rfl, n1 hc⟩)
    | true =>
      rw [h1, h2] at hc
      simp only [Bool.true_and] at hc
      by_cases h3 : 0 < t
      · rw [decide_eq_true h3] at hc
        have g3 : decide (t ≤ 0) = false := by rw [decide_eq_false_iff_not]; omega
        cases hb : bestS vs es q j with
        | none => exact .inr (.inr (.inr (.inl ⟨rfl, rfl, g3, rfl, n2 hc hb⟩)))
        | some b =>
          rw [hb] at hT
          obtain ⟨f, -, hf, hfc, -⟩ := hT
          refine .inr (.inr (.inr (.inr ⟨b, f, rfl, rfl, g3, rfl, hf, hc, hfc, ?_⟩)))
          rw [n3 b f hc hb hf]
          by_cases hh : higherB (sgE vs e) (sgE vs f) q.x = true
          · exact .inl ⟨hh, by rw [if_pos hh]⟩
          · exact .inr ⟨by simpa using hh, by rw [if_neg hh]⟩
      · rw [decide_eq_false h3] at hc
        exact .inr (.inr (.inl ⟨rfl, rfl, decide_eq_true (by omega), n1 hc⟩))
theorem highF {vs : List Vt} {es : List Eg} {A A2 : Option Addr} {n m c c2 : Nat} (HR : RightP vs es) (hn : n = vs.length) (hl : n ≤ 1000000) {e f : Eg} {px py : Int} (he : e ∈ es) (hf : f ∈ es) (h1 : candB (sgE vs e) ⟨px, py⟩ = true) (h2 : candB (sgE vs f) ⟨px, py⟩ = true) (iq : InP ⟨px, py⟩) (F : Nat → Prop) (w : World) (hs : Sl F w A (vR vs)) :
    Calls Tryz.prog 31 #[.agg #[.slice A n c, .slice A2 m c2], v3 e.id e.a e.b, v3 f.id f.a f.b, pV px py] w fun z w' => z = .returned (.bool (higherB (sgE vs e) (sgE vs f) px)) ∧ Below w.heap.size w w' := by
  have g1 := (cand_below HR he iq).1 h1
  have g2 := (cand_below HR hf iq).1 h2
  obtain ⟨-, ⟨-, hx1, hy1⟩, -⟩ := HR.each _ he
  obtain ⟨-, ⟨-, hx2, hy2⟩, -⟩ := HR.each _ hf
  exact refHigher_any vs A A2 n m c c2 F e.id e.a e.b f.id f.a f.b px py w hn hs hl hx1 hy1 hx2 hy2 g1.flat.ia g1.flat.ib g2.flat.ia g2.flat.ib iq.1 g1.flat.dx g2.flat.dx (g1.xs iq) (g2.xs iq)
theorem findD_go {vs : List Vt} {es : List Eg} {q : Pt} (h : inB q = true) (h2 : (es.any fun e => endB (sgE vs e) q) = false) : findD vs es q = (if 0 < onS vs es q es.length then ((onS vs es q es.length, 0, 0) : Int × Int × Int) else (match bestS vs es q es.length with | none => ((0, 0, 0) : Int × Int × Int) | some k => (0, ((es[k]?).map (·.id)).getD 0, 0))) := by
  unfold findD refSpot
  rw [if_neg (by simp [h]), h2, if_neg (by simp)]
  split
  · rfl
  · cases bestS vs es q es.length <;> rfl
set_option maxRecDepth 200000 in
set_option maxHeartbeats 64000000 in
theorem refFind_any (vs : List Vt) (es : List Eg) (A A2 : Option Addr) (n m : Nat) (c c2 : Nat) (F : Nat → Prop) (px py : Int) (w : World) (HR : RightP vs es) (hn : n = vs.length) (hm : m = es.length) (hs : Sl F w A (vR vs)) (hs2 : Sl F w A2 (eR es)) (hl : n ≤ 1000000) (hl2 : m ≤ 1000000) :
    Calls Tryz.prog 11 #[.agg #[.slice A n c, .slice A2 m c2], pV px py] w fun e w' => e = .returned (.tuple #[pV (findD vs es ⟨px, py⟩).1 (findD vs es ⟨px, py⟩).2.1, .int .i64 (findD vs es ⟨px, py⟩).2.2]) ∧ Below w.heap.size w w' := by
  have hI := refIn_any px py
  obtain ⟨b0, o0, H1, f0⟩ := (Own.start w).addSl (hs.ro (by rfl))
  obtain ⟨b9, o9, H, f9⟩ := H1.addSl (hs2.ro (by rfl))
  clear hs hs2 H1
  cases hin : inB ⟨px, py⟩ with
  | false =>
    rw [hin] at hI
    rw [show findD vs es ⟨px, py⟩ = (0, 0, 5) by unfold findD; rw [if_pos hin]]
    clear hin
    go_enter Tryz.func11, Tryz.ntmps11
    have tk0 : True := trivial
    have tk1 : True := trivial
    have tk2 : True := trivial
    go_wp2_with (first
      | go_big_skip
      | (go_at_call 18; (with_reducible refine (hI _).mono ?_); rintro e w3 ⟨rfl, hb⟩; replace H := H.ext hb; clear hb; dsimp only)
      | (guard_target = wpList _ _ _ (_ :: _) _ _; (first | (refine a44c7a0d ?_) | (refine a181aa22 ?_; clear H; (try clear w2); intro w2 H) | (refine a9475ade ?_; intro b2; clear H; (try clear w2); intro w2 H; (first | (clear tk0; rename Nat => d1) | (clear tk1; rename Nat => d2) | (clear tk2; rename Nat => d3) | (skip))))))
    have hr := H.loadVarN (P := Tryz.prog) (ty := 43) (b := d3) (row := [.int .i64 0, .int .i64 0]) (by simp) (by simp) (by simp)
    exact bodyPost_ret (v := .tuple #[pV 0 0, .int .i64 5]) (by simp [results, Tryz.results11, asAddr, hr]) rfl ⟨rfl, H.below⟩
  | true =>
    have iq : InP ⟨px, py⟩ := inP_b hin
    rw [hin] at hI
    have hgo := findD_go (vs := vs) (es := es) hin
    have hends : ∀ k e, es[k]? = some e → endB (sgE vs e) ⟨px, py⟩ = true → findD vs es ⟨px, py⟩ = (0, 0, 7) := fun k e he h => by
      unfold findD; rw [if_neg (by simp [hin]), if_pos (any_yes he h)]
    obtain ⟨z, hz⟩ : ∃ z, findD vs es ⟨px, py⟩ = z := ⟨_, rfl⟩
    rw [hz] at hgo hends ⊢
    have HGO := Lib.hid hgo
    have HENDS := Lib.hid hends
    clear hz hin hgo hends
    go_enter Tryz.func11, Tryz.ntmps11
    have tk0 : True := trivial
    have tk1 : True := trivial
    have tk2 : True := trivial
    go_wp2_with (first
      | go_big_skip
      | (go_at_call 18; (with_reducible refine (hI _).mono ?_); rintro e w3 ⟨rfl, hb⟩; replace H := H.ext hb; clear hb; dsimp only)
      | (guard_target = wpList _ _ _ (_ :: _) _ _; (first | (refine a44c7a0d ?_) | (refine a181aa22 ?_; clear H; (try clear w2); intro w2 H) | (refine a9475ade ?_; intro b2; clear H; (try clear w2); intro w2 H; (first | (clear tk0; rename Nat => d1) | (clear tk1; rename Nat => d2) | (clear tk2; rename Nat => d3) | (skip))))))
    go_loopg [6, 7, 8] es.length (fun k vb vo vi wr => k ≤ es.length ∧ vb = .int .i64 (bestI (bestS vs es ⟨px, py⟩ (es.length - k))) ∧ vo = .int .i64 (onS vs es ⟨px, py⟩ (es.length - k)) ∧ vi = .int .i64 ((es.length - k : Nat) : Int) ∧ ((es.take (es.length - k)).any fun e => endB (sgE vs e) ⟨px, py⟩) = false ∧
      Own w.heap.size w wr [.cells d3 [.int .i64 0, .int .i64 0], .cells d2 [.int .i64 px, .int .i64 py], .cells d1 [.slice A n c, .slice A2 m c2], .rd A2 b9 o9 (eR es), .rd A b0 o0 (vR vs)])
    case atStart => exact ⟨Nat.le_refl _, by simp [bestS, bestI], by simp [onS], by simp, by simp, H⟩
    case round =>
      clear H
      obtain ⟨hk, rfl, rfl, rfl, ht, H⟩ := hrel
      have HT := Lib.hid ht
      clear ht
      obtain ⟨ko, hko⟩ : ∃ ko, ko = gk := ⟨_, rfl⟩
      subst hko
      by_cases hlt : 0 < ko
      · obtain ⟨j, hj⟩ : ∃ j, es.length - ko = j := ⟨_, rfl⟩
        have hjl : j < es.length := by omega
        have hjm : j < m := by omega
        rw [hj] at HT ⊢
        obtain ⟨id, x, y, he⟩ := eg_at es hjl
        have hmem := List.mem_of_getElem? he
        obtain rfl := H.rdAddr m3 (eR_pos he)
        have hpi := at_eid (A := some ⟨b9, o9, none⟩) (b := b9) (off := o9) he
        have hp := at_e (A := some ⟨b9, o9, none⟩) (b := b9) (off := o9) he
        obtain ⟨-, ⟨-, hx, hy⟩, -⟩ := HR.each _ hmem
        simp only at hx hy
        obtain ⟨ia, ib⟩ := seg_in HR hmem
        have hL := fun F w h => refLine_any vs A (some ⟨b9, o9, none⟩) n m c c2 F id x y w hn h hl hx hy
        have hB := best_cases HR iq he
        have hO' := on_next (vs := vs) (q := ⟨px, py⟩) he
        have hE : endB (sgE vs ⟨id, x, y⟩) ⟨px, py⟩ = (decide ((segZ vs x y).a = ⟨px, py⟩) || decide ((segZ vs x y).b = ⟨px, py⟩)) := rfl
        obtain ⟨⟨⟨ax, ay⟩, ⟨bx, b_y⟩⟩, hz⟩ : ∃ s, segZ vs x y = s := ⟨_, rfl⟩
        have hs1 : sgE vs ⟨id, x, y⟩ = ⟨⟨ax, ay⟩, ⟨bx, b_y⟩⟩ := hz
        have hH := fun (f : Eg) (hf : f ∈ es) (g1 : candB (sgE vs ⟨id, x, y⟩) ⟨px, py⟩ = true) (g2 : candB (sgE vs f) ⟨px, py⟩ = true) => highF HR hn hl hmem hf g1 g2 iq (A := A) (A2 := some ⟨b9, o9, none⟩) (m := m) (c := c) (c2 := c2)
        rw [hz] at hL ia ib hE
        rw [hs1] at hB hO' hE
        simp only [hs1] at hH
        simp only at hL ia ib hB hO' hE
        have hO := refOn_any px py ax ay bx b_y iq ia ib
        have hS1 := refLess_any ax ay px py
        have hS2 := refLess_any px py bx b_y
        have hT := refTurn_any ax ay bx b_y px py ia ib iq
        have eq1 := eq_pt ax ay px py
        have eq2 := eq_pt bx b_y px py
        rw [← pt_eq] at eq1 eq2
        obtain ⟨v1, hv1⟩ : ∃ v, decide ((⟨ax, ay⟩ : Pt) = ⟨px, py⟩) = v := ⟨_, rfl⟩
        obtain ⟨v2, hv2⟩ : ∃ v, decide ((⟨bx, b_y⟩ : Pt) = ⟨px, py⟩) = v := ⟨_, rfl⟩
        rw [hv1, hv2] at hE
        rw [hv1] at eq1
        rw [hv2] at eq2
        have hend := HENDS.out j _ he
        rw [hs1, hE] at hend
        have HE := Lib.hid he
        have HEE := Lib.hid (show endB (sgE vs ⟨id, x, y⟩) ⟨px, py⟩ = (v1 || v2) by rw [hs1]; exact hE)
        have HJ := Lib.hid hj
        by_cases hvv : (v1 || v2) = true
        · have hz7 := hend hvv
          clear hB hO' hH hend hE hv1 hv2 hz hs1 hj he ia ib hmem hn hm hjl hk hx hy iq hO hS1 hS2 hT
          subst hz7
          have hcs : v1 = true ∨ (v1 = false ∧ v2 = true) := by cases v1 <;> simp at hvv ⊢; exact hvv
          clear hvv
          rcases hcs with rfl | ⟨rfl, rfl⟩
          all_goals
            have tk0 : True := trivial
            have tk1 : True := trivial
            go_wp2_with (first
              | go_big_skip
              | (go_at_call 27; (with_reducible refine (hL _ _ (aD f0)).mono ?_); rintro e w3 ⟨rfl, hb⟩; replace H := H.ext hb; clear hb; dsimp only; (first | (refine a8c34bfe ?_; clear hK K) | skip))
              | (guard_target = Code.wp _ (Code.region 14 _ true) _ _ _; refine ref21cr1 ?_; clear H; (try clear w2); intro w2 H)
              | (guard_target = Code.wp _ (Code.region 8 _ true) _ _ _; refine region_treeA0 8 (G := True) (.q 0 (.q 1 (.q 2 (.q 3 (.q 4 (.q 5 (.q 6 (.q 7 (.q 8 (.q 9 (.add [10, 11] (.e 12 (.e 13 .nil))))))))))))) (by kernel_rfl) (by intro c a d v w h; cases d <;> first | exact h | exact hQ h) (by kernel_rfl) H ⟨trivial⟩ (fun _ w3 H2 => ?_); (clear H; (try clear w2); revert w3; intro w2 H))
              | ((first | guard_target = wpList _ _ _ (_ :: _) _ _ | guard_target = wpTreeC _ _ _ _ _ _ _ | guard_target = wpTreeA _ _ _ _ _ _ _ _ _); (first | (refine ref21cg4 ?_) | (refine ref21cg12 ?_; clear H; (try clear w2); intro w2 H) | (refine ref21cg15 ?_; intro b2; clear H; (try clear w2); intro w2 H; (first | (clear tk0; rename Nat => nb1) | (clear tk1; rename Nat => nb2) | (skip))) | (guard_target = wpTreeC _ _ _ (Tr.q _ _) _ _ _; (with_reducible refine treeC_call (v := ?_) (o := ?_) (aK H) ?_ ?_ (fun w3 H K hK => ?_) ?_); rotate_left 2; exact rfl; exact rfl; (focus (simp only [List.getElem_toArray, List.getElem_cons_succ, List.getElem_cons_zero]; (first | (go_big_op; (first | (go_at_call 27; (with_reducible refine (hL _ _ (aD f0)).mono ?_); rintro e w3 ⟨rfl, hb⟩; dsimp only; exact aE)))))); refine a75ac28e ?_) | (guard_target = wpTreeC _ _ _ (Tr.both _ _) _ _ _; refine treeC_both ?_ ?_) | (guard_target = wpTreeC _ _ _ Tr.nil _ _ _; refine treeC_nil H ?_; clear H; (try clear w2); intro w2 H) | (guard_target = wpTreeA _ _ _ _ _ _ (TrA.q _ _) _ _; (with_reducible refine treeA_call (v := ?_) (o := ?_) (aK H) ?_ ?_ (fun w3 H K hK => ?_) ?_); rotate_left 2; exact rfl; exact rfl; (focus (simp only [List.getElem_toArray, List.getElem_cons_succ, List.getElem_cons_zero]; (first | (go_big_op; (first | (go_at_call 27; (with_reducible refine (hL _ _ (aD f0)).mono ?_); rintro e w3 ⟨rfl, hb⟩; dsimp only; exact aE)))))); refine a75ac28e ?_) | (guard_target = wpTreeA _ _ _ _ _ _ (TrA.both _ _) _ _; refine treeA_both ?_ ?_) | (guard_target = wpTreeA _ _ _ _ _ _ TrA.nil _ _; refine treeA_nil H ?_; clear H; (try clear w2); intro w2 H) | (guard_target = wpTreeA _ _ _ _ _ _ (TrA.add [10, 11] _) _ _; refine treeA_adds [NewA [.int .i64 0, .int .i64 0], NewA [.int .i64 0, .int .i64 0]] H (by repeat first | exact .here | apply Suf.there) (by kernel_rfl) ?_ ?_; (focus (refine ⟨?_, ?_, trivial⟩; all_goals (refine ⟨_, rfl, adds_of rfl (fun w3 l3 H hs3 K hK => ?_)⟩; simp only [List.getElem_toArray, List.getElem_cons_succ, List.getElem_cons_zero]; (first | (refine o_alloc (z := ?_) rfl ?_ H rfl (fun w4 b4 he H2 => ?_); rotate_left 1; (focus (intro _; simp; with_reducible exact rfl)); exact hK _ _ _ newA_mk H2) | (go_big_op; go_at_call 27; (with_reducible refine (hL _ _ (aD f0)).mono ?_); rintro e w3 ⟨rfl, hb⟩; replace H := H.ext hb; clear hb; dsimp only; refine hK _ _ _ ?_ H; skip))))); simp only [AllA]; rintro _ _ ⟨e1, rfl, rfl⟩ _ _ ⟨e2, rfl, rfl⟩ w3 H2; clear H; (try clear w2); revert w3; intro w2 H; simp only [List.map_cons, List.map_nil, List.cons_append, List.nil_append] at H; simp only [putR]; simp only [List.getElem?_toArray, List.getElem?_cons_succ, List.getElem?_cons_zero, Option.bind_some]; simp only [List.getElem_toArray, List.getElem_cons_succ, List.getElem_cons_zero, Act.put, List.setIfInBounds_toArray, List.set_cons_succ, List.set_cons_zero]) | (refine ref21cg17 ?_; clear H; (try clear w2); intro w2 H) | (refine a1cd62f9 ?_; clear H; (try clear w2); intro w2 H; intro K hK))))
            have hr := H.loadVarN (P := Tryz.prog) (ty := 43) (b := d3) (row := [.int .i64 0, .int .i64 0]) (by simp) (by simp) (by simp)
            exact bodyPost_ret (v := .tuple #[pV 0 0, .int .i64 7]) (by simp [results, Tryz.results11, asAddr, hr]) rfl ⟨rfl, H.below⟩
        · obtain ⟨rfl, rfl⟩ : v1 = false ∧ v2 = false := by cases v1 <;> cases v2 <;> simp at hvv ⊢
          clear hvv hend
          generalize onR ⟨px, py⟩ ⟨ax, ay⟩ ⟨bx, b_y⟩ = o at hO hO'
          generalize onS vs es ⟨px, py⟩ j = o1 at hO' ⊢
          generalize lessB ⟨ax, ay⟩ ⟨px, py⟩ = l1 at hS1 hB
          generalize lessB ⟨px, py⟩ ⟨bx, b_y⟩ = l2 at hS2 hB
          generalize turnZ ⟨ax, ay⟩ ⟨bx, b_y⟩ ⟨px, py⟩ = t at hT hB
          generalize bestS vs es ⟨px, py⟩ j = bb at hB ⊢
          have HON := Lib.hid hO'
          have HM := Lib.hid hm
          clear hO' hE hv1 hv2 hz hs1 hj he ia ib hn hm hx hy HENDS
          obtain ⟨z9, hz9⟩ : ∃ z, bestI bb = z := ⟨_, rfl⟩
          rw [hz9]
          have hB2 : ∃ z', Hid (bestI (bestS vs es ⟨px, py⟩ (j + 1)) = z') ∧ ((l1 = false ∧ z' = z9) ∨ (l1 = true ∧ l2 = false ∧ z' = z9) ∨ (l1 = true ∧ l2 = true ∧ decide (t ≤ 0) = true ∧ z' = z9) ∨ (l1 = true ∧ l2 = true ∧ decide (t ≤ 0) = false ∧ z9 = -1 ∧ z' = (j : Int)) ∨
              ∃ (bq : Nat) (fi fx fy : Int), l1 = true ∧ l2 = true ∧ decide (t ≤ 0) = false ∧ z9 = (bq : Int) ∧ es[bq]? = some ⟨fi, fx, fy⟩ ∧
                ((z' = (j : Int) ∧ ∀ (F : Nat → Prop) (w : World) (hs : Sl F w A (vR vs)), Calls Tryz.prog 31 #[.agg #[.slice A n c, .slice (some ⟨b9, o9, none⟩) m c2], v3 id x y, v3 fi fx fy, pV px py] w fun z w' => z = .returned (.bool true) ∧ Below w.heap.size w w') ∨
                 (z' = (bq : Int) ∧ ∀ (F : Nat → Prop) (w : World) (hs : Sl F w A (vR vs)), Calls Tryz.prog 31 #[.agg #[.slice A n c, .slice (some ⟨b9, o9, none⟩) m c2], v3 id x y, v3 fi fx fy, pV px py] w fun z w' => z = .returned (.bool false) ∧ Below w.heap.size w w'))) := by
            refine ⟨_, Lib.hid rfl, ?_⟩
            rcases hB with ⟨h1, hb⟩ | ⟨h1, h2, hb⟩ | ⟨h1, h2, ht, hb⟩ | ⟨h1, h2, ht, h3, hb⟩ | ⟨bq, ⟨fi, fx, fy⟩, h1, h2, ht, h3, hf, g1, g2, hb⟩
            · exact .inl ⟨h1, by rw [hb]; exact hz9⟩
            · exact .inr (.inl ⟨h1, h2, by rw [hb]; exact hz9⟩)
            · exact .inr (.inr (.inl ⟨h1, h2, ht, by rw [hb]; exact hz9⟩))
            · exact .inr (.inr (.inr (.inl ⟨h1, h2, ht, by rw [← hz9, h3]; rfl, by rw [hb]; rfl⟩)))
            · refine .inr (.inr (.inr (.inr ⟨bq, fi, fx, fy, h1, h2, ht, by rw [← hz9, h3]; rfl, hf, ?_⟩)))
              have h := hH ⟨fi, fx, fy⟩ (List.mem_of_getElem? hf) g1 g2
              simp only at h hb
              rcases hb with ⟨hh, hb⟩ | ⟨hh, hb⟩
              · rw [hh] at h
                exact .inl ⟨by rw [hb]; rfl, h⟩
              · rw [hh] at h
                exact .inr ⟨by rw [hb]; rfl, h⟩
          clear hB hH hz9 bb iq
          obtain ⟨z', HB, hB2⟩ := hB2
          obtain ⟨o2, ho2⟩ : ∃ z, (if o = true then id else o1) = z := ⟨_, rfl⟩
          rw [ho2] at HON
          have HO2 := Lib.hid ho2
          clear ho2
          go_upto_if 44 with (first
            | go_big_skip
            | (go_at_call 28; (with_reducible refine (hO _).mono ?_); rintro e w3 ⟨rfl, hb⟩; replace H := H.ext hb; clear hb; dsimp only; (first | (refine a8c34bfe ?_; clear hK K) | skip))
            | (go_at_call 27; (with_reducible refine (hL _ _ (aD f0)).mono ?_); rintro e w3 ⟨rfl, hb⟩; replace H := H.ext hb; clear hb; dsimp only; (first | (refine a8c34bfe ?_; clear hK K) | skip))
            | (guard_target = Code.wp _ (Code.region 14 _ true) _ _ _; refine ref21cr1 ?_; clear H; (try clear w2); intro w2 H)
            | (guard_target = Code.wp _ (Code.region 8 _ true) _ _ _; refine region_treeA0 8 (G := True) (.q 0 (.q 1 (.q 2 (.q 3 (.q 4 (.q 5 (.q 6 (.q 7 (.q 8 (.q 9 (.add [10, 11] (.e 12 (.e 13 .nil))))))))))))) (by kernel_rfl) (by intro c a d v w h; cases d <;> first | exact h | exact hQ h) (by kernel_rfl) H ⟨trivial⟩ (fun _ w3 H2 => ?_); (clear H; (try clear w2); revert w3; intro w2 H))
            | ((first | guard_target = wpList _ _ _ (_ :: _) _ _ | guard_target = wpTreeC _ _ _ _ _ _ _ | guard_target = wpTreeA _ _ _ _ _ _ _ _ _); (first | (refine ref21cg4 ?_) | (refine ref21cg12 ?_; clear H; (try clear w2); intro w2 H) | (refine ref21cg15 ?_; intro b2; clear H; (try clear w2); intro w2 H) | (guard_target = wpTreeC _ _ _ (Tr.q _ _) _ _ _; (with_reducible refine treeC_call (v := ?_) (o := ?_) (aK H) ?_ ?_ (fun w3 H K hK => ?_) ?_); rotate_left 2; exact rfl; exact rfl; (focus (simp only [List.getElem_toArray, List.getElem_cons_succ, List.getElem_cons_zero]; (first | (go_big_op; (first | (go_at_call 28; (with_reducible refine (hO _).mono ?_); rintro e w3 ⟨rfl, hb⟩; dsimp only; exact aE) | (go_at_call 27; (with_reducible refine (hL _ _ (aD f0)).mono ?_); rintro e w3 ⟨rfl, hb⟩; dsimp only; exact aE)))))); refine a75ac28e ?_) | (guard_target = wpTreeC _ _ _ (Tr.both _ _) _ _ _; refine treeC_both ?_ ?_) | (guard_target = wpTreeC _ _ _ Tr.nil _ _ _; refine treeC_nil H ?_; clear H; (try clear w2); intro w2 H) | (guard_target = wpTreeA _ _ _ _ _ _ (TrA.q _ _) _ _; (with_reducible refine treeA_call (v := ?_) (o := ?_) (aK H) ?_ ?_ (fun w3 H K hK => ?_) ?_); rotate_left 2; exact rfl; exact rfl; (focus (simp only [List.getElem_toArray, List.getElem_cons_succ, List.getElem_cons_zero]; (first | (go_big_op; (first | (go_at_call 28; (with_reducible refine (hO _).mono ?_); rintro e w3 ⟨rfl, hb⟩; dsimp only; exact aE) | (go_at_call 27; (with_reducible refine (hL _ _ (aD f0)).mono ?_); rintro e w3 ⟨rfl, hb⟩; dsimp only; exact aE)))))); refine a75ac28e ?_) | (guard_target = wpTreeA _ _ _ _ _ _ (TrA.both _ _) _ _; refine treeA_both ?_ ?_) | (guard_target = wpTreeA _ _ _ _ _ _ TrA.nil _ _; refine treeA_nil H ?_; clear H; (try clear w2); intro w2 H) | (guard_target = wpTreeA _ _ _ _ _ _ (TrA.add [10, 11] _) _ _; refine treeA_adds [NewA [.int .i64 0, .int .i64 0], NewA [.int .i64 0, .int .i64 0]] H (by repeat first | exact .here | apply Suf.there) (by kernel_rfl) ?_ ?_; (focus (refine ⟨?_, ?_, trivial⟩; all_goals (refine ⟨_, rfl, adds_of rfl (fun w3 l3 H hs3 K hK => ?_)⟩; simp only [List.getElem_toArray, List.getElem_cons_succ, List.getElem_cons_zero]; (first | (refine o_alloc (z := ?_) rfl ?_ H rfl (fun w4 b4 he H2 => ?_); rotate_left 1; (focus (intro _; simp; with_reducible exact rfl)); exact hK _ _ _ newA_mk H2) | (go_big_op; go_at_call 28; (with_reducible refine (hO _).mono ?_); rintro e w3 ⟨rfl, hb⟩; replace H := H.ext hb; clear hb; dsimp only; refine hK _ _ _ ?_ H; skip) | (go_big_op; go_at_call 27; (with_reducible refine (hL _ _ (aD f0)).mono ?_); rintro e w3 ⟨rfl, hb⟩; replace H := H.ext hb; clear hb; dsimp only; refine hK _ _ _ ?_ H; skip))))); simp only [AllA]; rintro _ _ ⟨e1, rfl, rfl⟩ _ _ ⟨e2, rfl, rfl⟩ w3 H2; clear H; (try clear w2); revert w3; intro w2 H; simp only [List.map_cons, List.map_nil, List.cons_append, List.nil_append] at H; simp only [putR]; simp only [List.getElem?_toArray, List.getElem?_cons_succ, List.getElem?_cons_zero, Option.bind_some]; simp only [List.getElem_toArray, List.getElem_cons_succ, List.getElem_cons_zero, Act.put, List.setIfInBounds_toArray, List.set_cons_succ, List.set_cons_zero]) | (refine ref21cg17 ?_; clear H; (try clear w2); intro w2 H) | (refine a1cd62f9 ?_; clear H; (try clear w2); intro w2 H; intro K hK))))
          go_cut [7] (fun v wx => v = .int .i64 o2 ∧ Own w.heap.size w wx [.cells e1 [.int .i64 ax, .int .i64 ay], .cells e2 [.int .i64 bx, .int .i64 b_y], .cells d3 [.int .i64 0, .int .i64 0], .cells d2 [.int .i64 px, .int .i64 py], .cells d1 [.slice A n c, .slice (some ⟨b9, o9, none⟩) m c2], .rd (some ⟨b9, o9, none⟩) b9 o9 (eR es), .rd A b0 o0 (vR vs)])
          case first =>
            cases o
            all_goals
              go_wp2_with (first
                | go_big_skip
                | (guard_target = wpList _ _ _ (_ :: _) _ _; (first | (refine a44c7a0d ?_) | (refine a181aa22 ?_; clear H; (try clear w2); intro w2 H) | (refine a9475ade ?_; intro b2; clear H; (try clear w2); intro w2 H))))
              go_meet
              case rel => exact ⟨by rw [← HO2.out]; simp, H⟩
          case rest =>
            obtain ⟨rfl, H⟩ := hcut
            clear hO HO2
            rcases hB2 with ⟨rfl, rfl⟩ | ⟨rfl, rfl, rfl⟩ | ⟨rfl, rfl, ht, rfl⟩ | ⟨rfl, rfl, ht, rfl, rfl⟩ | ⟨bq, fi, fx, fy, rfl, rfl, ht, rfl, hf, ⟨rfl, hh⟩ | ⟨rfl, hh⟩⟩
            all_goals
              try (have hbm : bq < m := by rw [HM.out]; exact (List.getElem?_eq_some_iff.1 hf).1)
              try (have hp2 := at_e (A := some ⟨b9, o9, none⟩) (b := b9) (off := o9) hf; clear hf)
              have gj : decide ((j : Int) < 0) = false := by simp
              go_wp2_with (first
                | go_big_skip
                | (go_at_call 31; (with_reducible refine (hh _ _ (aD f0)).mono ?_); rintro e w3 ⟨rfl, hb⟩; replace H := H.ext hb; clear hb; dsimp only; (first | (refine a8c34bfe ?_; clear hK K) | skip))
                | (go_at_call 29; (with_reducible refine (hS1 _).mono ?_); rintro e w3 ⟨rfl, hb⟩; replace H := H.ext hb; clear hb; dsimp only; (first | (refine a8c34bfe ?_; clear hK K) | skip))
                | (go_at_call 29; (with_reducible refine (hS2 _).mono ?_); rintro e w3 ⟨rfl, hb⟩; replace H := H.ext hb; clear hb; dsimp only; (first | (refine a8c34bfe ?_; clear hK K) | skip))
                | (go_at_call 30; (with_reducible refine (hT _).mono ?_); rintro e w3 ⟨rfl, hb⟩; replace H := H.ext hb; clear hb; dsimp only; (first | (refine a8c34bfe ?_; clear hK K) | skip))
                | (guard_target = Code.wp _ (Code.region 14 _ true) _ _ _; refine ref21cr1 ?_; clear H; (try clear w2); intro w2 H)
                | ((first | guard_target = wpList _ _ _ (_ :: _) _ _ | guard_target = wpTreeC _ _ _ _ _ _ _); (first | (refine a0a8a7fa ?_) | (refine a731c6f1 ?_; clear H; (try clear w2); intro w2 H) | (refine aeebfb80 ?_; intro b2; clear H; (try clear w2); intro w2 H) | (guard_target = wpTreeC _ _ _ (Tr.q _ _) _ _ _; (with_reducible refine treeC_call (v := ?_) (o := ?_) (aK H) ?_ ?_ (fun w3 H K hK => ?_) ?_); rotate_left 2; exact rfl; exact rfl; (focus (simp only [List.getElem_toArray, List.getElem_cons_succ, List.getElem_cons_zero]; (first | (go_big_op; (first | (go_at_call 31; (with_reducible refine (hh _ _ (aD f0)).mono ?_); rintro e w3 ⟨rfl, hb⟩; dsimp only; exact aE) | (go_at_call 29; (with_reducible refine (hS1 _).mono ?_); rintro e w3 ⟨rfl, hb⟩; dsimp only; exact aE) | (go_at_call 29; (with_reducible refine (hS2 _).mono ?_); rintro e w3 ⟨rfl, hb⟩; dsimp only; exact aE) | (go_at_call 30; (with_reducible refine (hT _).mono ?_); rintro e w3 ⟨rfl, hb⟩; dsimp only; exact aE)))))); refine a75ac28e ?_) | (guard_target = wpTreeC _ _ _ (Tr.both _ _) _ _ _; refine treeC_both ?_ ?_) | (guard_target = wpTreeC _ _ _ Tr.nil _ _ _; refine treeC_nil H ?_; clear H; (try clear w2); intro w2 H) | (refine a9d8d0a4 ?_; clear H; (try clear w2); intro w2 H) | (refine abe83802 ?_; clear H; (try clear w2); intro w2 H; intro K hK))))
              go_roundg (ko - 1)
              case rel =>
                have e1 : es.length - (ko - 1) = j + 1 := by have := HJ.out; omega
                rw [e1]
                exact ⟨by omega, by rw [HB.out], by rw [HON.out], by have := HJ.out; (first | (congr 1; done) | (congr 1; omega)), any_step HE.out HT.out HEE.out, (aW H)⟩
              case measure => omega
      · obtain rfl : ko = 0 := by omega
        rw [Nat.sub_zero] at HT ⊢
        have hfin := HGO.out (by have h := HT.out; rwa [List.take_length] at h)
        have hT := best_top HR iq (edgeL_ok HR) es.length (Nat.le_refl _)
        generalize onS vs es ⟨px, py⟩ es.length = o1 at hfin ⊢
        generalize bestS vs es ⟨px, py⟩ es.length = bb at hfin hT ⊢
        clear HT HGO HENDS
        by_cases ho : 0 < o1
        · rw [if_pos ho] at hfin
          subst hfin
          have g1 : decide (0 < o1) = true := by simpa using ho
          generalize bestI bb = zb
          clear ho hT
          have tk0 : True := trivial
          have tk1 : True := trivial
          go_wp2_with (first
            | go_big_skip
            | (guard_target = Code.wp _ (Code.region 14 _ true) _ _ _; refine ref21cr1 ?_; clear H; (try clear w2); intro w2 H)
            | ((first | guard_target = wpList _ _ _ (_ :: _) _ _ | guard_target = wpTreeC _ _ _ _ _ _ _); (first | (refine a0a8a7fa ?_) | (refine a731c6f1 ?_; clear H; (try clear w2); intro w2 H) | (refine aeebfb80 ?_; intro b2; clear H; (try clear w2); intro w2 H; (first | (clear tk0; rename Nat => e1) | (clear tk1; rename Nat => e2) | (skip))) | (guard_target = wpTreeC _ _ _ (Tr.both _ _) _ _ _; refine treeC_both ?_ ?_) | (guard_target = wpTreeC _ _ _ Tr.nil _ _ _; refine treeC_nil H ?_; clear H; (try clear w2); intro w2 H) | (refine a9d8d0a4 ?_; clear H; (try clear w2); intro w2 H) | (refine abe83802 ?_; clear H; (try clear w2); intro w2 H; intro K hK))))
          have hr := H.loadVarN (P := Tryz.prog) (ty := 43) (b := d3) (row := [.int .i64 o1, .int .i64 0]) (by simp) (by simp) (by simp)
          exact bodyPost_ret (v := .tuple #[pV o1 0, .int .i64 0]) (by simp [results, Tryz.results11, asAddr, hr]) rfl ⟨rfl, H.below⟩
        · rw [if_neg ho] at hfin
          have g1 : decide (0 < o1) = false := by simpa using ho
          clear ho
          cases bb with
          | none =>
            subst hfin
            rw [show bestI none = -1 from rfl]
            clear hT
            have tk0 : True := trivial
            have tk1 : True := trivial
            go_wp2_with (first
              | go_big_skip
              | (guard_target = Code.wp _ (Code.region 14 _ true) _ _ _; refine ref21cr1 ?_; clear H; (try clear w2); intro w2 H)
              | ((first | guard_target = wpList _ _ _ (_ :: _) _ _ | guard_target = wpTreeC _ _ _ _ _ _ _); (first | (refine a0a8a7fa ?_) | (refine a731c6f1 ?_; clear H; (try clear w2); intro w2 H) | (refine aeebfb80 ?_; intro b2; clear H; (try clear w2); intro w2 H; (first | (clear tk0; rename Nat => e1) | (clear tk1; rename Nat => e2) | (skip))) | (guard_target = wpTreeC _ _ _ (Tr.both _ _) _ _ _; refine treeC_both ?_ ?_) | (guard_target = wpTreeC _ _ _ Tr.nil _ _ _; refine treeC_nil H ?_; clear H; (try clear w2); intro w2 H) | (refine a9d8d0a4 ?_; clear H; (try clear w2); intro w2 H) | (refine abe83802 ?_; clear H; (try clear w2); intro w2 H; intro K hK))))
            have hr := H.loadVarN (P := Tryz.prog) (ty := 43) (b := d3) (row := [.int .i64 0, .int .i64 0]) (by simp) (by simp) (by simp)
            exact bodyPost_ret (v := .tuple #[pV 0 0, .int .i64 0]) (by simp [results, Tryz.results11, asAddr, hr]) rfl ⟨rfl, H.below⟩
          | some b =>
            obtain ⟨⟨fi, fx, fy⟩, hb, hf, -⟩ := hT
            simp only [hf, Option.map_some, Option.getD_some] at hfin
            subst hfin
            rw [show bestI (some b) = (b : Int) from rfl]
            have gb : decide ((b : Int) < 0) = false := by simp
            have hbm : b < m := by omega
            obtain rfl := H.rdAddr m3 (eR_pos hf)
            have hp2 := at_eid (A := some ⟨b9, o9, none⟩) (b := b9) (off := o9) hf
            clear hf hb
            have tk0 : True := trivial
            have tk1 : True := trivial
            go_wp2_with (first
              | go_big_skip
              | (guard_target = Code.wp _ (Code.region 14 _ true) _ _ _; refine ref21cr1 ?_; clear H; (try clear w2); intro w2 H)
              | ((first | guard_target = wpList _ _ _ (_ :: _) _ _ | guard_target = wpTreeC _ _ _ _ _ _ _); (first | (refine a0a8a7fa ?_) | (refine a731c6f1 ?_; clear H; (try clear w2); intro w2 H) | (refine aeebfb80 ?_; intro b2; clear H; (try clear w2); intro w2 H; (first | (clear tk0; rename Nat => e1) | (clear tk1; rename Nat => e2) | (skip))) | (guard_target = wpTreeC _ _ _ (Tr.both _ _) _ _ _; refine treeC_both ?_ ?_) | (guard_target = wpTreeC _ _ _ Tr.nil _ _ _; refine treeC_nil H ?_; clear H; (try clear w2); intro w2 H) | (refine a9d8d0a4 ?_; clear H; (try clear w2); intro w2 H) | (refine abe83802 ?_; clear H; (try clear w2); intro w2 H; intro K hK))))
            have hr := H.loadVarN (P := Tryz.prog) (ty := 43) (b := d3) (row := [.int .i64 0, .int .i64 fi]) (by simp) (by simp) (by simp)
            exact bodyPost_ret (v := .tuple #[pV 0 fi, .int .i64 0]) (by simp [results, Tryz.results11, asAddr, hr]) rfl ⟨rfl, H.below⟩
end Go.Proofs.YtlhmjhildlnokaaGreat
