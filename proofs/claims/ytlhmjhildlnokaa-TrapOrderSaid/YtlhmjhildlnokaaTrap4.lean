/-
  The walks of trap.fresh, Len, ask, leafOf.
-/
import Derived.Test.YtlhmjhildlnokaaTrap3
namespace Go.Proofs.Ytlhmjhildlnokaa
set_option linter.unusedVariables false
set_option linter.unusedSimpArgs false
open Go.RowKit Go.Sort Go.Shelf

theorem nR_one (q : Nd) : nR [q] = [.int .i64 q.k, .int .i64 q.id, .int .i64 q.p.x, .int .i64 q.p.y, .int .i64 q.a, .int .i64 q.b] := rfl
theorem pR_one (p : Pc) : pR [p] = [.int .i64 p.t.top, .int .i64 p.t.bot, .bool p.t.hl, .bool p.t.hr, .int .i64 p.t.l.x, .int .i64 p.t.l.y, .int .i64 p.t.r.x, .int .i64 p.t.r.y, .int .i64 p.n, .bool p.g] := rfl
abbrev xB (bx ks ke n m cn cp dn dp : Nat) : Res := .cells bx [.slice (some ⟨dn, 0, none⟩) n cn, .slice (some ⟨dp, 0, none⟩) m cp, .map (some ks), .map (some ke)]
abbrev nG (dn n cn : Nat) (N : List Nd) : Res := .grow 127 6 (.slice (some ⟨dn, 0, none⟩) n cn) n (nR N)
abbrev pG (dp m cp : Nat) (P : List Pc) : Res := .grow 121 10 (.slice (some ⟨dp, 0, none⟩) m cp) m (pR P)
set_option maxRecDepth 100000 in
set_option maxHeartbeats 8000000 in
theorem leafOf_any {B : Nat} {w0 w : World} {l : List Res} {bx ks ke n m cn cp dn dp : Nat} {N : List Nd} {P : List Pc} (t : Tz) (hnl : n ≤ 1000000) (hml : m ≤ 1000000)
    (H : Own B w0 w (xB bx ks ke n m cn cp dn dp :: nG dn n cn N :: pG dp m cp P :: l)) :
    Calls Try.prog 82 #[.pointer (some ⟨bx, 0, none⟩), tzV t] w fun e w' => ∃ dn' dp' cn' cp', e = .returned (.int .i64 (n : Int)) ∧
      Own B w0 w' (xB bx ks ke (n + 1) (m + 1) cn' cp' dn' dp' :: nG dn' (n + 1) cn' (N ++ [⟨0, (m : Int), ⟨0, 0⟩, 0, 0⟩]) :: pG dp' (m + 1) cp' (P ++ [⟨t, (n : Int), false⟩]) :: l) := by
  obtain ⟨tp, bt, hl, hr, ⟨lx, ly⟩, ⟨rx, ry⟩⟩ := t
  simp only [tzV, xB, nG, pG, nR_app, pR_app, nR_one, pR_one] at H ⊢
  generalize nR N = LN at *
  generalize pR P = LP at *
  go_enter Try.func82, Try.ntmps82
  have tk0 : True := trivial
  go_wp2_with (first
    | (guard_target =~ Code.wp _ (Code.region 2 _ true) _ _ _; (replace H:Own _ _ _ (Res.grow 127 _ _ _ _ :: _) := H.front2); refine region_treeC 2 1 (G := True) (.q 0 (.q 1 (.q 2 (.q 3 (.q 4 (.q 5 (.q 6 (.q 7 (.q 8 (.q 9 (.q 10 (.e 11 (.e 12 (.q 13 (.q 14 (.e 15 .nil)))))))))))))))) (by kernel_rfl) (by intro c a d v w h; cases d <;> first | exact h | exact hQ h) (by kernel_rfl) H ⟨trivial⟩ (fun _ w3 H2 => ?_); (clear H; (try clear w2); revert w3; intro w2 H); simp only [List.drop_succ_cons, List.drop_zero])
    | (guard_target =~ Code.wp _ (Code.region 3 _ true) _ _ _; (replace H:Own _ _ _ (Res.grow 121 _ _ _ _ :: _) := H.front4); refine region_treeC 3 1 (G := True) (.q 0 (.q 1 (.q 2 (.q 3 (.q 4 (.q 5 (.q 6 (.q 7 (.e 8 (.e 9 (.q 10 (.q 11 (.e 12 .nil))))))))))))) (by kernel_rfl) (by intro c a d v w h; cases d <;> first | exact h | exact hQ h) (by kernel_rfl) H ⟨trivial⟩ (fun _ w3 H2 => ?_); (clear H; (try clear w2); revert w3; intro w2 H); simp only [List.drop_succ_cons, List.drop_zero])
    | (guard_target =~ wpList _ _ _ (_ :: _) _ _; (first | (guard_target =~ wpList _ _ _ (Oper.mk _ (.load _ _) _ _ _ _ :: _) _ _; refine BigFrame.wpList_want rfl (fun K hK => ?_); (refine o_loadC (v := ?_) (row := ?_) rfl rfl H ?_ ?_ ?_ (hK _ _ ?_); rotate_left 2; (repeat first | exact .head _ | apply List.Mem.tail); (exact rfl); (focus (intro _; simp; done))); clear hK K) | ((guard_target =~ wpList _ _ _ (Oper.mk _ (.box _ _) _ _ _ _ :: _) _ _; refine BigFrame.wpList_want rfl (fun K hK => ?_); refine o_box rfl H rfl (fun w3 b2 he H2 => hK _ _ ?_)); clear hK K he; clear H; (try clear w2); revert w3; intro w2 H; simp [Act.eval, Value.cells, setL, List.getD] at H; (clear tk0; rename Nat => b1))); simp only [Act.put, List.setIfInBounds_toArray, List.set_cons_succ, List.set_cons_zero])
    | (guard_target =~ wpTreeC _ _ _ _ _ _ _; first | (guard_target =~ wpTreeC _ _ _ (Tr.e _ Tr.nil) _ _ _; refine treeC_last (by decide +kernel) H rfl rfl (fun w3 H2 K hK => ?_); clear H; (try clear w2); (revert w3; intro w2 H); simp only [List.getElem_toArray, List.getElem_cons_succ, List.getElem_cons_zero]; (guard_target =~ Oper.wp _ (Oper.mk _ (.store _ _ _) _ _ _ _) _ _ _ _; refine o_store (l' := ?_) (row := ?_) rfl rfl H rfl ?_ ?_ ?_ ?_ (fun w3 H2 => hK _ _ ?_); rotate_left 2; (first | exact r3 | exact r5); (focus (intro _; simp [Act.eval, Value.cells]; done)); (focus (simp [Act.eval, Value.cells]; done)); (exact rfl); clear hK K; clear H; (try clear w2); revert w3; intro w2 H; simp [Act.eval, Value.cells, setL, List.getD] at H); simp only [Act.put, List.setIfInBounds_toArray, List.set_cons_succ, List.set_cons_zero]) | (guard_target =~ wpTreeC _ _ _ (Tr.q _ _) _ _ _; first | (refine treeC_quiet ⟨_, H, by repeat first | exact .here | apply Suf.there⟩ rfl rfl rfl (fun K hK => ?_); simp only [List.getElem_toArray, List.getElem_cons_succ, List.getElem_cons_zero]; first | (guard_target =~ Oper.quiet _ (Oper.mk _ (.load _ _) _ _ _ _) _ _ _; (first | (refine q_loadC (v := ?_) (row := ?_) rfl rfl ?_ ?_ ?_ (hK _ ?_); rotate_left 2; (repeat first | exact .head _ | apply List.Mem.tail); (exact rfl); (focus (intro _; simp; done))) | (refine q_loadNC (row := ?_) rfl rfl ?_ ?_ ?_ (hK _ ?_); rotate_left 1; (repeat first | exact .head _ | apply List.Mem.tail); (focus (intro _; simp; done)); (focus (intro _; simp; done)))); clear hK K; simp only [Act.put, List.setIfInBounds_toArray, List.set_cons_succ, List.set_cons_zero]) | (go_big_quiet_op; (try refine ⟨_, fun _ _ => rfl, ?_⟩); refine hK _ ?_; clear hK K)) | (refine treeC_call (v := ?_) ⟨_, H, by repeat first | exact .here | apply Suf.there⟩ rfl rfl (fun w3 H K hK => ?_) ?_; rotate_left 1; (focus (simp only [List.getElem_toArray, List.getElem_cons_succ, List.getElem_cons_zero]; first | (go_big_op; first | exact hK _ (Ext.refl _)))); simp only [List.getElem_toArray, List.getElem_cons_succ, List.getElem_cons_zero, Act.put, List.setIfInBounds_toArray, List.set_cons_succ, List.set_cons_zero]) | (refine treeC_skip ⟨_, H, by repeat first | exact .here | apply Suf.there⟩ rfl rfl ?_; simp only [List.getElem_toArray, List.getElem_cons_succ, List.getElem_cons_zero, Act.put, List.setIfInBounds_toArray, List.set_cons_succ, List.set_cons_zero])) | (guard_target =~ wpTreeC _ _ _ (Tr.both _ _) _ _ _; refine treeC_both ?_ ?_) | (guard_target =~ wpTreeC _ _ _ (Tr.e _ _) _ _ _; first | (refine treeC_one H rfl rfl (fun w3 H2 K hK => ?_); clear H; (try clear w2); (revert w3; intro w2 H); simp only [List.getElem_toArray, List.getElem_cons_succ, List.getElem_cons_zero]; first | ((first | (guard_target =~ Oper.wp _ (Oper.mk _ (.call { callee := .builtin .append, args := _, argTypes := _ }) _ _ _ _) _ _ _ _; refine o_append (row := ?_) (n := ?_) (xs := ?_) (l' := ?_) infoPc rfl rfl rfl H ?_ rfl ?_ ?_ (by kernel_rfl) rfl (by decide) ?_ ?_ ?_ (fun v2 w3 H2 hn => hK _ _ ⟨_, H2, ?_⟩ ?_); rotate_left 4; (repeat first | exact .head _ | apply List.Mem.tail); (focus (simp; done)); (focus (intro _; (exact r1))); exact rfl; exact (by unfold maxLen; omega); exact (by omega); (guard_target =~ Suf _ _; repeat first | exact .here | apply Suf.there); clear hK K hn; clear H; (try clear w2); revert w3; intro w2 H; simp only [List.take_succ_cons, List.take_zero, Nat.one_mul] at H; (obtain ⟨A8, c8, rfl⟩ := H.growForm (v := v2) (by repeat first | exact .head _ | apply List.Mem.tail))) | (guard_target =~ Oper.wp _ (Oper.mk _ (.call { callee := .builtin .append, args := _, argTypes := _ }) _ _ _ _) _ _ _ _; refine o_append (row := ?_) (n := ?_) (xs := ?_) (l' := ?_) infoNd rfl rfl rfl H ?_ rfl ?_ ?_ (by kernel_rfl) rfl (by decide) ?_ ?_ ?_ (fun v2 w3 H2 hn => hK _ _ ⟨_, H2, ?_⟩ ?_); rotate_left 4; (repeat first | exact .head _ | apply List.Mem.tail); (focus (simp; done)); (focus (intro _; (exact r1))); exact rfl; exact (by unfold maxLen; omega); exact (by omega); (guard_target =~ Suf _ _; repeat first | exact .here | apply Suf.there); clear hK K hn; clear H; (try clear w2); revert w3; intro w2 H; simp only [List.take_succ_cons, List.take_zero, Nat.one_mul] at H; (obtain ⟨A7, c7, rfl⟩ := H.growForm (v := v2) (by repeat first | exact .head _ | apply List.Mem.tail))) | ((guard_target =~ Oper.wp _ (Oper.mk _ (.buildSlice _ _ _) _ _ _ _) _ _ _ _; refine o_buildSlice (C := ?_) (E := ?_) rfl rfl H ?_ rfl (fun w3 b2 he H2 => hK _ _ ⟨_, H2, ?_⟩ ?_); rotate_left 2; (focus (intro _; simp [go_sem, Instr.buildSlice]; with_reducible exact rfl))); (guard_target =~ Suf _ _; repeat first | exact .here | apply Suf.there); clear hK K he; clear H; (try clear w2); revert w3; intro w2 H; simp [Act.eval, Value.cells, setL, List.getD] at H; (skip))); simp only [Act.put, List.setIfInBounds_toArray, List.set_cons_succ, List.set_cons_zero]) | (go_big_op; (first | fail))) | (refine treeC_one_skip (fun w3 hx => ⟨_, H.ext hx, by repeat first | exact .here | apply Suf.there⟩) rfl rfl (fun w3 hx => ?_); replace H := H.ext hx; clear hx; (try clear w2); revert w3; intro w2 H; simp only [List.getElem_toArray, List.getElem_cons_succ, List.getElem_cons_zero, Act.put, List.setIfInBounds_toArray, List.set_cons_succ, List.set_cons_zero])) | (guard_target =~ wpTreeC _ _ _ Tr.nil _ _ _; refine treeC_nil H (fun w3 H2 => ?_); clear H; (try clear w2); revert w3; intro w2 H)))
  go_ret
  obtain ⟨d7, c7', he⟩ := H.growSome (n := n + 1) (v := .slice A7 (n + 1) c7) (e := 127) (size := 6) (by exact m3) (by omega) (by decide)
  injection he with hA h1 h2
  subst hA
  clear h1 h2
  obtain ⟨d8, c8', he⟩ := H.growSome (n := m + 1) (v := .slice A8 (m + 1) c8) (e := 121) (size := 10) (by exact m1) (by omega) (by decide)
  injection he with hA h1 h2
  subst hA
  clear h1 h2
  refine ⟨d7, d8, c7, c8, rfl, ?_⟩
  (replace H:Own _ _ _ (Res.grow 121 _ _ _ _ :: _) := H.front1)
  (replace H:Own _ _ _ (Res.grow 127 _ _ _ _ :: _) := H.front3)
  (replace H:Own _ _ _ (Res.cells bx _ :: _) := H.front5)
  exact (H.sub (by repeat first | exact List.Sublist.refl _ | apply List.Sublist.cons_cons | apply List.Sublist.cons))
set_option maxRecDepth 100000 in
set_option maxHeartbeats 8000000 in
theorem ask_any {B : Nat} {w0 w : World} {l : List Res} {bx ks ke n m cn cp dn dp : Nat} {N : List Nd} (q : Nd) (hnl : n ≤ 1000000)
    (H : Own B w0 w (xB bx ks ke n m cn cp dn dp :: nG dn n cn N :: l)) :
    Calls Try.prog 83 #[.pointer (some ⟨bx, 0, none⟩), ndV q] w fun e w' => ∃ dn' cn', e = .returned (.int .i64 (n : Int)) ∧
      Own B w0 w' (xB bx ks ke (n + 1) m cn' cp dn' dp :: nG dn' (n + 1) cn' (N ++ [q]) :: l) := by
  obtain ⟨k0, id0, ⟨px, py⟩, a0, b0⟩ := q
  simp only [ndV, xB, nG, nR_app, nR_one] at H ⊢
  generalize nR N = LN at *
  have e1 : IntKind.i64.wrap ((n : Int) + 1 - 1) = (n : Int) := by rw [show (n : Int) + 1 - 1 = (n : Int) by omega]; exact IntWalk.i64_in _ (by omega)
  have e2 : (n : Int) + 1 - 1 = (n : Int) := by omega
  go_enter Try.func83, Try.ntmps83
  have tk0 : True := trivial
  go_wp2_with (first
    | (guard_target =~ Code.wp _ (Code.region 1 _ true) _ _ _; (replace H:Own _ _ _ (Res.grow 127 _ _ _ _ :: _) := H.front2); refine region_treeC 1 1 (G := True) (.q 0 (.q 1 (.q 2 (.q 3 (.q 4 (.q 5 (.e 6 (.e 7 (.q 8 (.q 9 (.e 10 .nil))))))))))) (by kernel_rfl) (by intro c a d v w h; cases d <;> first | exact h | exact hQ h) (by kernel_rfl) H ⟨trivial⟩ (fun _ w3 H2 => ?_); (clear H; (try clear w2); revert w3; intro w2 H); simp only [List.drop_succ_cons, List.drop_zero])
    | (guard_target =~ wpList _ _ _ (_ :: _) _ _; (first | (guard_target =~ wpList _ _ _ (Oper.mk _ (.load _ _) _ _ _ _ :: _) _ _; refine BigFrame.wpList_want rfl (fun K hK => ?_); (refine o_loadC (v := ?_) (row := ?_) rfl rfl H ?_ ?_ ?_ (hK _ _ ?_); rotate_left 2; (repeat first | exact .head _ | apply List.Mem.tail); (exact rfl); (focus (intro _; simp; done))); clear hK K) | ((guard_target =~ wpList _ _ _ (Oper.mk _ (.box _ _) _ _ _ _ :: _) _ _; refine BigFrame.wpList_want rfl (fun K hK => ?_); refine o_box rfl H rfl (fun w3 b2 he H2 => hK _ _ ?_)); clear hK K he; clear H; (try clear w2); revert w3; intro w2 H; simp [Act.eval, Value.cells, setL, List.getD] at H; (clear tk0; rename Nat => b1))); simp only [Act.put, List.setIfInBounds_toArray, List.set_cons_succ, List.set_cons_zero])
    | (guard_target =~ wpTreeC _ _ _ _ _ _ _; first | (guard_target =~ wpTreeC _ _ _ (Tr.e _ Tr.nil) _ _ _; refine treeC_last (by decide +kernel) H rfl rfl (fun w3 H2 K hK => ?_); clear H; (try clear w2); (revert w3; intro w2 H); simp only [List.getElem_toArray, List.getElem_cons_succ, List.getElem_cons_zero]; (guard_target =~ Oper.wp _ (Oper.mk _ (.store _ _ _) _ _ _ _) _ _ _ _; refine o_store (l' := ?_) (row := ?_) rfl rfl H rfl ?_ ?_ ?_ ?_ (fun w3 H2 => hK _ _ ?_); rotate_left 2; (exact r3); (focus (intro _; simp [Act.eval, Value.cells]; done)); (focus (simp [Act.eval, Value.cells]; done)); (exact rfl); clear hK K; clear H; (try clear w2); revert w3; intro w2 H; simp [Act.eval, Value.cells, setL, List.getD] at H); simp only [Act.put, List.setIfInBounds_toArray, List.set_cons_succ, List.set_cons_zero]) | (guard_target =~ wpTreeC _ _ _ (Tr.q _ _) _ _ _; first | (refine treeC_quiet ⟨_, H, by repeat first | exact .here | apply Suf.there⟩ rfl rfl rfl (fun K hK => ?_); simp only [List.getElem_toArray, List.getElem_cons_succ, List.getElem_cons_zero]; first | (guard_target =~ Oper.quiet _ (Oper.mk _ (.load _ _) _ _ _ _) _ _ _; (first | (refine q_loadC (v := ?_) (row := ?_) rfl rfl ?_ ?_ ?_ (hK _ ?_); rotate_left 2; (repeat first | exact .head _ | apply List.Mem.tail); (exact rfl); (focus (intro _; simp; done))) | (refine q_loadNC (row := ?_) rfl rfl ?_ ?_ ?_ (hK _ ?_); rotate_left 1; (repeat first | exact .head _ | apply List.Mem.tail); (focus (intro _; simp; done)); (focus (intro _; simp; done)))); clear hK K; simp only [Act.put, List.setIfInBounds_toArray, List.set_cons_succ, List.set_cons_zero]) | (go_big_quiet_op; (try refine ⟨_, fun _ _ => rfl, ?_⟩); refine hK _ ?_; clear hK K)) | (refine treeC_call (v := ?_) ⟨_, H, by repeat first | exact .here | apply Suf.there⟩ rfl rfl (fun w3 H K hK => ?_) ?_; rotate_left 1; (focus (simp only [List.getElem_toArray, List.getElem_cons_succ, List.getElem_cons_zero]; first | (go_big_op; first | exact hK _ (Ext.refl _)))); simp only [List.getElem_toArray, List.getElem_cons_succ, List.getElem_cons_zero, Act.put, List.setIfInBounds_toArray, List.set_cons_succ, List.set_cons_zero]) | (refine treeC_skip ⟨_, H, by repeat first | exact .here | apply Suf.there⟩ rfl rfl ?_; simp only [List.getElem_toArray, List.getElem_cons_succ, List.getElem_cons_zero, Act.put, List.setIfInBounds_toArray, List.set_cons_succ, List.set_cons_zero])) | (guard_target =~ wpTreeC _ _ _ (Tr.both _ _) _ _ _; refine treeC_both ?_ ?_) | (guard_target =~ wpTreeC _ _ _ (Tr.e _ _) _ _ _; first | (refine treeC_one H rfl rfl (fun w3 H2 K hK => ?_); clear H; (try clear w2); (revert w3; intro w2 H); simp only [List.getElem_toArray, List.getElem_cons_succ, List.getElem_cons_zero]; first | ((first | (guard_target =~ Oper.wp _ (Oper.mk _ (.call { callee := .builtin .append, args := _, argTypes := _ }) _ _ _ _) _ _ _ _; refine o_append (row := ?_) (n := ?_) (xs := ?_) (l' := ?_) infoNd rfl rfl rfl H ?_ rfl ?_ ?_ (by kernel_rfl) rfl (by decide) ?_ ?_ ?_ (fun v2 w3 H2 hn => hK _ _ ⟨_, H2, ?_⟩ ?_); rotate_left 4; (repeat first | exact .head _ | apply List.Mem.tail); (focus (simp; done)); (focus (intro _; (exact r1))); exact rfl; exact (by unfold maxLen; omega); exact (by omega); (guard_target =~ Suf _ _; repeat first | exact .here | apply Suf.there); clear hK K hn; clear H; (try clear w2); revert w3; intro w2 H; simp only [List.take_succ_cons, List.take_zero, Nat.one_mul] at H; (obtain ⟨A7, c7, rfl⟩ := H.growForm (v := v2) (by repeat first | exact .head _ | apply List.Mem.tail))) | ((guard_target =~ Oper.wp _ (Oper.mk _ (.buildSlice _ _ _) _ _ _ _) _ _ _ _; refine o_buildSlice (C := ?_) (E := ?_) rfl rfl H ?_ rfl (fun w3 b2 he H2 => hK _ _ ⟨_, H2, ?_⟩ ?_); rotate_left 2; (focus (intro _; simp [go_sem, Instr.buildSlice]; with_reducible exact rfl))); (guard_target =~ Suf _ _; repeat first | exact .here | apply Suf.there); clear hK K he; clear H; (try clear w2); revert w3; intro w2 H; simp [Act.eval, Value.cells, setL, List.getD] at H; (skip))); simp only [Act.put, List.setIfInBounds_toArray, List.set_cons_succ, List.set_cons_zero]) | (go_big_op; (first | fail))) | (refine treeC_one_skip (fun w3 hx => ⟨_, H.ext hx, by repeat first | exact .here | apply Suf.there⟩) rfl rfl (fun w3 hx => ?_); replace H := H.ext hx; clear hx; (try clear w2); revert w3; intro w2 H; simp only [List.getElem_toArray, List.getElem_cons_succ, List.getElem_cons_zero, Act.put, List.setIfInBounds_toArray, List.set_cons_succ, List.set_cons_zero])) | (guard_target =~ wpTreeC _ _ _ Tr.nil _ _ _; refine treeC_nil H (fun w3 H2 => ?_); clear H; (try clear w2); revert w3; intro w2 H)))
  go_ret
  obtain ⟨d7, c7', he⟩ := H.growSome (n := n + 1) (v := .slice A7 (n + 1) c7) (e := 127) (size := 6) (by exact m1) (by omega) (by decide)
  injection he with hA h1 h2
  subst hA
  clear h1 h2
  refine ⟨d7, c7, ?_, ?_⟩
  · simp [e1, e2]
  (replace H:Own _ _ _ (Res.grow 127 _ _ _ _ :: _) := H.front1)
  (replace H:Own _ _ _ (Res.cells bx _ :: _) := H.front3)
  exact (H.sub (by repeat first | exact List.Sublist.refl _ | apply List.Sublist.cons_cons | apply List.Sublist.cons))
set_option maxRecDepth 100000 in
set_option maxHeartbeats 8000000 in
theorem xlen_any {B : Nat} {w0 w : World} {l : List Res} {bx ks ke n m cn cp dn dp : Nat} {S : List (Int × Sg)}
    (H : Own B w0 w (xB bx ks ke n m cn cp dn dp :: mSeg ks S :: l)) :
    Calls Try.prog 46 #[.pointer (some ⟨bx, 0, none⟩)] w fun e w' => e = .returned (.int .i64 (S.length : Int)) ∧ Own B w0 w' (xB bx ks ke n m cn cp dn dp :: mSeg ks S :: l) := by
  simp only [xB] at H ⊢
  go_enter Try.func46, Try.ntmps46
  go_wp2_with (guard_target =~ wpList _ _ _ (_ :: _) _ _; (first | (guard_target =~ wpList _ _ _ (Oper.mk _ (.load _ _) _ _ _ _ :: _) _ _; refine BigFrame.wpList_want rfl (fun K hK => ?_); (refine o_loadC (v := ?_) (row := ?_) rfl rfl H ?_ ?_ ?_ (hK _ _ ?_); rotate_left 2; (repeat first | exact .head _ | apply List.Mem.tail); (exact rfl); (focus (intro _; simp; done))); clear hK K) | (guard_target =~ wpList _ _ _ (Oper.mk _ (.call { callee := .builtin .len, args := _, argTypes := _ }) _ _ _ _ :: _) _ _; refine BigFrame.wpList_want rfl (fun K hK => ?_); refine o_segLen (m := ?_) rfl H ?_ (hK _ _ ?_); rotate_left 1; (repeat first | exact .head _ | apply List.Mem.tail); clear hK K)); simp only [Act.put, List.setIfInBounds_toArray, List.set_cons_succ, List.set_cons_zero])
  go_ret
  exact ⟨rfl, H⟩
theorem xlenN_any (w : World) : Calls Try.prog 46 #[.pointer none] w fun e w' => e = .returned (.int .i64 0) ∧ Below w.heap.size w w' := by
  have H := Own.start w
  go_enter Try.func46, Try.ntmps46
  go_wp2_with (first | fail)
  go_ret
  exact ⟨rfl, H.below⟩
/-- A slice that is built, and may grow. -/
theorem o_buildSliceG {Pg : Program} {o : Oper} {a : Act} {w w0 : World} {B : Nat} {l : List Res} {Q : Exit → Act → World → Prop} {K : Act → World → Prop} {t e : TypeId} {n size : Nat} {parts : Array (Nat × Operand)} {ps : Array (Nat × Value)} {C : Array Value} {row : List Value} (ho : o.op = .buildSlice t n parts) (hp : parts.map (fun q => (q.1, a.eval q.2)) = ps)
    (H : Own B w0 w l) (hrun : ∀ w : World, (Instr.buildSlice t n ps).run Pg w = .ok (.slice (some ⟨w.heap.size, 0, none⟩) n n) (w.alloc (.cells C e))) (hrow : C.toList = row) (hsz : row.length = n * size) (hm : n ≤ maxLen)
    (hk : ∀ w' b, Own B w0 w' (.grow e size (.slice (some ⟨b, 0, none⟩) n n) n row :: l) → K (a.put o.dst (.slice (some ⟨b, 0, none⟩) n n)) w') : o.wp Pg a w K Q := by
  unfold Oper.wp execOp
  subst hp hrow
  simp only [ho, Sem.run_bind, hrun w]
  have := H.grow_row (b := 0) (C := C) e size n n hm (Nat.le_refl _) (by simpa using hsz)
  rw [List.take_of_length_le (by omega)] at this
  exact hk _ _ this
def nd0 : Nd := ⟨0, 0, ⟨0, 0⟩, 0, 0⟩
def pc0 : Pc := ⟨⟨0, 0, false, false, ⟨0, 0⟩, ⟨0, 0⟩⟩, 0, false⟩
set_option maxRecDepth 100000 in
set_option maxHeartbeats 8000000 in
theorem fresh_any (w : World) : Calls Try.prog 61 #[] w fun e w' => ∃ bx ks ke cn cp dn dp, e = .returned (.pointer (some ⟨bx, 0, none⟩)) ∧
    Own w.heap.size w w' [xB bx ks ke 1 1 cn cp dn dp, nG dn 1 cn [nd0], pG dp 1 cp [pc0], mSeg ks [], mEnd ke []] := by
  have H := Own.start w
  go_enter Try.func61, Try.ntmps61
  have tk0 : True := trivial
  have tk1 : True := trivial
  have tk2 : True := trivial
  have tk3 : True := trivial
  have tk4 : True := trivial
  go_wp2_with (first
    | (guard_target =~ wpList _ _ _ (Oper.mk _ (.buildSlice _ _ _) _ _ _ _ :: _) _ _; refine BigFrame.wpList_want rfl (fun K hK => ?_); (first | (refine o_buildSliceG (C := ?_) (e := 127) (size := 6) rfl rfl H ?_ rfl ?_ (by decide) (fun w3 b2 H2 => hK _ _ ?_); rotate_left 1; (focus (intro _; simp [go_sem, Instr.buildSlice]; with_reducible exact rfl)); (focus (exact rfl))) | (refine o_buildSliceG (C := ?_) (e := 121) (size := 10) rfl rfl H ?_ rfl ?_ (by decide) (fun w3 b2 H2 => hK _ _ ?_); rotate_left 1; (focus (intro _; simp [go_sem, Instr.buildSlice]; with_reducible exact rfl)); (focus (exact rfl)))); clear hK K; (clear H; (try clear w2); revert w3; intro w2 H); (try simp only [Array.toList] at H); (first | (clear tk3; rename Nat => b4) | (clear tk4; rename Nat => b5)); simp only [Act.put, List.setIfInBounds_toArray, List.set_cons_succ, List.set_cons_zero])
    | (guard_target =~ wpList _ _ _ (_ :: _) _ _; (first | (guard_target =~ wpList _ _ _ (Oper.mk _ (.store _ _ _) _ _ _ _ :: _) _ _; refine BigFrame.wpList_want rfl (fun K hK => ?_); refine o_store (l' := ?_) (row := ?_) rfl rfl H rfl ?_ ?_ ?_ ?_ (fun w3 H2 => hK _ _ ?_); rotate_left 2; (first | exact r1 | exact r2); (focus (intro _; simp [Act.eval, Value.cells]; done)); (focus (simp [Act.eval, Value.cells]; done)); (exact rfl); clear hK K; clear H; (try clear w2); revert w3; intro w2 H; simp [Act.eval, Value.cells, setL, List.getD] at H) | ((guard_target =~ wpList _ _ _ (Oper.mk _ (.box _ _) _ _ _ _ :: _) _ _; refine BigFrame.wpList_want rfl (fun K hK => ?_); refine o_box rfl H rfl (fun w3 b2 he H2 => hK _ _ ?_)); clear hK K he; clear H; (try clear w2); revert w3; intro w2 H; simp [Act.eval, Value.cells, setL, List.getD] at H; (clear tk2; rename Nat => b3)) | (guard_target =~ wpList _ _ _ (Oper.mk _ (.makeMap _ _) _ _ _ _ :: _) _ _; refine BigFrame.wpList_want rfl (fun K hK => ?_); refine o_segMake rfl H (fun w3 b2 he H2 => hK _ _ ?_); clear hK K he; clear H; (try clear w2); revert w3; intro w2 H; (clear tk0; rename Nat => k1)) | (guard_target =~ wpList _ _ _ (Oper.mk _ (.makeMap _ _) _ _ _ _ :: _) _ _; refine BigFrame.wpList_want rfl (fun K hK => ?_); refine o_endMake rfl H (fun w3 b2 he H2 => hK _ _ ?_); clear hK K he; clear H; (try clear w2); revert w3; intro w2 H; (clear tk1; rename Nat => k2))); simp only [Act.put, List.setIfInBounds_toArray, List.set_cons_succ, List.set_cons_zero]))
  go_ret
  refine ⟨b3, k1, k2, 1, 1, b4, b5, rfl, ?_⟩
  (replace H:Own _ _ _ (mSeg _ _ :: _) := H.front4)
  (replace H:Own _ _ _ (Res.grow 121 _ _ _ _ :: _) := H.front1)
  (replace H:Own _ _ _ (Res.grow 127 _ _ _ _ :: _) := H.front2)
  (replace H:Own _ _ _ (Res.cells b3 _ :: _) := H.front3)
  exact H
end Go.Proofs.Ytlhmjhildlnokaa
