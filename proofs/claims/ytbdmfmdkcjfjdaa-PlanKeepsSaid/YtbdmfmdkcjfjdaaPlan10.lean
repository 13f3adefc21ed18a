/-
  The walks of the document's plan: another one alike, with one more, with one less.
-/
import Derived.Test.YtbdmfmdkcjfjdaaOwn7
import Derived.Test.YtbdmfmdkcjfjdaaOwn6
import Derived.Test.YtbdmfmdkcjfjdaaRegC
import Derived.Test.YtbdmfmdkcjfjdaaPlan4
namespace Go.Proofs.Ytbdmfmdkcjfjdaa
set_option linter.unusedVariables false
set_option linter.unusedSimpArgs false
open Go.RowKit

theorem infoVt : (Try.prog.info? 40).map (fun i => (i.zero, i.size, i.bytes)) = some (some (v3 0 0 0), 3, 24) := by kernel_rfl
theorem infoEg : (Try.prog.info? 45).map (fun i => (i.zero, i.size, i.bytes)) = some (some (v3 0 0 0), 3, 24) := by kernel_rfl
theorem vR_one (l : List Vt) : (vR l).all (·.oneCell') = true := by
  rw [List.all_eq_true]; intro v hv
  obtain ⟨a, _, ha⟩ := List.mem_flatMap.1 hv
  simp only [t3, List.mem_cons, List.not_mem_nil, or_false] at ha
  rcases ha with rfl | rfl | rfl <;> rfl
theorem eR_one (l : List Eg) : (eR l).all (·.oneCell') = true := by
  rw [List.all_eq_true]; intro v hv
  obtain ⟨a, _, ha⟩ := List.mem_flatMap.1 hv
  simp only [t3, List.mem_cons, List.not_mem_nil, or_false] at ha
  rcases ha with rfl | rfl | rfl <;> rfl
theorem vR_app (l m : List Vt) : vR (l ++ m) = vR l ++ vR m := by simp [vR]
theorem eR_app (l m : List Eg) : eR (l ++ m) = eR l ++ eR m := by simp [eR]
/-- A plan of the callee's own. -/
def RetG (w : World) (n m : Nat) (vs : List Vt) (es : List Eg) (e : Ending) (w' : World) : Prop :=
  ∃ v1 v2, e = .returned (.agg #[v1, v2]) ∧ Own w.heap.size w w' [.grow 40 3 v1 n (vR vs), .grow 45 3 v2 m (eR es)]
set_option maxRecDepth 100000 in
set_option maxHeartbeats 8000000 in
theorem copied_any (vs : List Vt) (es : List Eg) (n m : Nat) (A A2 : Option Addr) (c c2 : Nat) (F : Nat → Prop) (w : World) (hn : n = vs.length) (hm : m = es.length) (hs : Sl F w A (vR vs)) (hs2 : Sl F w A2 (eR es)) (hl : n ≤ 1000000) (hl2 : m ≤ 1000000) :
    Calls Try.prog 64 #[.agg #[.slice A n c, .slice A2 m c2]] w (RetG w n m vs es) := by
  obtain ⟨b0, o0, H1, f0⟩ := (Own.start w).addSl (hs.ro (by rfl))
  obtain ⟨b9, o9, H2, f9⟩ := H1.addSl (hs2.ro (by rfl))
  have H := (H2.grow_nil 45 3).grow_nil 40 3
  clear hs hs2 H1 H2
  have lv : (vR vs).length = n * 3 := by rw [vR_len, hn]
  have le : (eR es).length = m * 3 := by rw [eR_len, hm]
  have LV := Lib.hid lv
  have LE := Lib.hid le
  clear lv le hn hm
  go_enter Try.func64, Try.ntmps64
  have tk0 : True := trivial
  have tk1 : True := trivial
  have tk2 : True := trivial
  go_wp2_with (guard_target =~ wpList _ _ _ (_ :: _) _ _; (first | (guard_target =~ wpList _ _ _ (Oper.mk _ (.call { callee := .builtin .append, args := _, argTypes := _ }) _ _ _ _ :: _) _ _; refine BigFrame.wpList_want rfl (fun K hK => ?_); refine o_appendR (news := ?_) (n := ?_) (xs := ?_) (bb := ?_) (off := ?_) (l' := ?_) infoEg rfl rfl rfl H ?_ ?_ ?_ (by kernel_rfl) rfl (by decide) ?_ ?_ ?_ (fun v2 w3 H2 hn => hK _ _ ?_); rotate_left 6; (repeat first | exact .head _ | apply List.Mem.tail); exact LE.out; (focus (intro _; (exact r4))); exact (eR_one es); exact (by unfold maxLen; omega); exact (by omega); clear hK K hn; clear H; (try clear w2); revert w3; intro w2 H; simp only [List.nil_append, Nat.zero_add] at H; (obtain ⟨A6, c6, rfl⟩ := H.growForm (v := v2) (by repeat first | exact .head _ | apply List.Mem.tail))) | (guard_target =~ wpList _ _ _ (Oper.mk _ (.call { callee := .builtin .append, args := _, argTypes := _ }) _ _ _ _ :: _) _ _; refine BigFrame.wpList_want rfl (fun K hK => ?_); refine o_appendR (news := ?_) (n := ?_) (xs := ?_) (bb := ?_) (off := ?_) (l' := ?_) infoVt rfl rfl rfl H ?_ ?_ ?_ (by kernel_rfl) rfl (by decide) ?_ ?_ ?_ (fun v2 w3 H2 hn => hK _ _ ?_); rotate_left 6; (repeat first | exact .head _ | apply List.Mem.tail); exact LV.out; (focus (intro _; (exact r3))); exact (vR_one vs); exact (by unfold maxLen; omega); exact (by omega); clear hK K hn; clear H; (try clear w2); revert w3; intro w2 H; simp only [List.nil_append, Nat.zero_add] at H; (obtain ⟨A5, c5, rfl⟩ := H.growForm (v := v2) (by repeat first | exact .head _ | apply List.Mem.tail))) | (guard_target =~ wpList _ _ _ (Oper.mk _ (.load _ _) _ _ _ _ :: _) _ _; refine BigFrame.wpList_want rfl (fun K hK => ?_); (first | (refine o_loadC (v := ?_) (row := ?_) rfl rfl H ?_ ?_ ?_ (hK _ _ ?_); rotate_left 2; (repeat first | exact .head _ | apply List.Mem.tail); (exact rfl); (focus (intro _; simp; done))) | (refine o_loadNC (row := ?_) rfl rfl H ?_ ?_ ?_ (hK _ _ ?_); rotate_left 1; (repeat first | exact .head _ | apply List.Mem.tail); (focus (intro _; simp; done)); (focus (intro _; simp; done)))); clear hK K) | (guard_target =~ wpList _ _ _ (Oper.mk _ (.store _ _ _) _ _ _ _ :: _) _ _; refine BigFrame.wpList_want rfl (fun K hK => ?_); refine o_store (l' := ?_) (row := ?_) rfl rfl H rfl ?_ ?_ ?_ ?_ (fun w3 H2 => hK _ _ ?_); rotate_left 2; (first | exact r0 | exact r1); (focus (intro _; simp [Act.eval, Value.cells]; done)); (focus (simp [Act.eval, Value.cells]; done)); (exact rfl); clear hK K; clear H; (try clear w2); revert w3; intro w2 H; simp [Act.eval, Value.cells, setL, List.getD] at H) | ((first | (guard_target =~ wpList _ _ _ (Oper.mk _ (.alloc _) _ _ _ _ :: _) _ _; refine BigFrame.wpList_want rfl (fun K hK => ?_); refine o_alloc (z := ?_) rfl ?_ H rfl (fun w3 b2 he H2 => hK _ _ ?_); rotate_left 1; (focus (intro _; simp; with_reducible exact rfl))) | (guard_target =~ wpList _ _ _ (Oper.mk _ (.box _ _) _ _ _ _ :: _) _ _; refine BigFrame.wpList_want rfl (fun K hK => ?_); refine o_box rfl H rfl (fun w3 b2 he H2 => hK _ _ ?_))); clear hK K he; clear H; (try clear w2); revert w3; intro w2 H; simp [Act.eval, Value.cells, setL, List.getD] at H; (first | (clear tk0; rename Nat => b1) | (clear tk1; rename Nat => b2) | (clear tk2; rename Nat => b3)))); simp only [Act.put, List.setIfInBounds_toArray, List.set_cons_succ, List.set_cons_zero])
  have hr := H.loadVarN (P := Try.prog) (ty := 25) (b := b2) m1 (by simp) (by simp)
  exact bodyPost_ret (v := .agg #[_, _]) (by simp [results, Try.results64, asAddr, hr]) rfl ⟨_, _, rfl, H.tail.tail.tail.sub (.cons_cons _ (.cons_cons _ (List.nil_sublist _)))⟩
set_option maxRecDepth 100000 in
set_option maxHeartbeats 8000000 in
theorem plAdd_any (vs : List Vt) (es : List Eg) (n m : Nat) (A A2 : Option Addr) (c c2 : Nat) (F : Nat → Prop) (px py : Int) (w : World) (hn : n = vs.length) (hm : m = es.length) (hs : Sl F w A (vR vs)) (hs2 : Sl F w A2 (eR es)) (hl : n ≤ 1000000) (hl2 : m ≤ 1000000)
    (hb1 : -9223372036854775808 ≤ lastV vs + 1) (hb2 : lastV vs + 1 ≤ 9223372036854775807) :
    Calls Try.prog 39 #[.agg #[.slice A n c, .slice A2 m c2], pV px py] w (RetG w (n + 1) m (vs ++ [⟨lastV vs + 1, ⟨px, py⟩⟩]) es) := by
  obtain ⟨b0, o0, H1, f0⟩ := (Own.start w).addSl (hs.ro (by rfl))
  obtain ⟨b9, o9, H, f9⟩ := H1.addSl (hs2.ro (by rfl))
  clear hs hs2 H1
  have hcp := fun F w h1 h2 => copied_any vs es n m A A2 c c2 F w hn hm h1 h2 hl hl2
  by_cases hv : 0 < n
  · obtain ⟨k, rfl⟩ : ∃ k, n = k + 1 := ⟨n - 1, by omega⟩
    obtain ⟨i, x, y, he⟩ := vt_at vs (k := k) (by omega)
    have hlast : lastV vs = i := by
      have := lastV_step he
      rwa [hn, List.take_length] at this
    rw [hlast] at hb1 hb2 ⊢
    have hat : ((vR vs).drop (k * 3)).take [Value.int .i64 i].length = [Value.int .i64 i] := sub_at (flat3_at _ (fun _ => rfl) vs k _ he) 0 1 (by omega)
    have HAT := Lib.hid hat
    have hsum : IntKind.i64.wrap (i + 1) = i + 1 := IntWalk.i64_in _ ⟨hb1, hb2⟩
    have hck : (((k + 1 : Nat) : Int) - 1) = (k : Int) := by omega
    clear hn hm hlast hb1 hb2 he hat
    go_enter Try.func39, Try.ntmps39
    have tk0 : True := trivial
    have tk1 : True := trivial
    have tk2 : True := trivial
    have tk3 : True := trivial
    have tk4 : True := trivial
    go_wp2_with (first
      | (go_at_call 64; (with_reducible refine (hcp _ _ (by exact H.giveRd m4 f0) (by exact H.giveRd m3 f9)).mono ?_); rintro e w3 ⟨v1, v2, rfl, H2⟩; replace H := H.join H2 rfl; clear H2; simp only [List.cons_append, List.nil_append] at H; obtain ⟨d5, c5, rfl⟩ := H.growSome m0 (by omega) (by decide); obtain ⟨A6, c6, rfl⟩ := H.growForm m1; have hp := at_grow (e := 40) (size := 3) (n := k + 1) (b := d5) (c := c5) (o := k * 3) HAT.out; dsimp only)
      | (guard_target =~ wpList _ _ _ (_ :: _) _ _; (first | (guard_target =~ wpList _ _ _ (Oper.mk _ (.call { callee := .builtin .append, args := _, argTypes := _ }) _ _ _ _ :: _) _ _; refine BigFrame.wpList_want rfl (fun K hK => ?_); refine o_append (row := ?_) (n := ?_) (xs := ?_) (l' := ?_) infoVt rfl rfl rfl H ?_ rfl ?_ ?_ (by kernel_rfl) rfl (by decide) ?_ ?_ ?_ (fun v2 w3 H2 hn => hK _ _ ?_); rotate_left 4; (repeat first | exact .head _ | apply List.Mem.tail); (focus (simp; done)); (focus (intro _; (exact r2))); exact rfl; exact (by unfold maxLen; omega); exact (by omega); clear hK K hn; clear H; (try clear w2); revert w3; intro w2 H; simp only [List.take_succ_cons, List.take_zero, Nat.one_mul] at H; (obtain ⟨A7, c7, rfl⟩ := H.growForm (v := v2) (by repeat first | exact .head _ | apply List.Mem.tail))) | (guard_target =~ wpList _ _ _ (Oper.mk _ (.load _ _) _ _ _ _ :: _) _ _; refine BigFrame.wpList_want rfl (fun K hK => ?_); (first | (refine o_load (v := ?_) (r := ?_) rfl rfl H ?_ ?_ ?_ (hK _ _ ?_); rotate_left 2; (with_reducible assumption); (repeat first | exact .head _ | apply List.Mem.tail); (focus (intro _; simp; done))) | (refine o_loadC (v := ?_) (row := ?_) rfl rfl H ?_ ?_ ?_ (hK _ _ ?_); rotate_left 2; (repeat first | exact .head _ | apply List.Mem.tail); (exact rfl); (focus (intro _; simp; done))) | (refine o_loadNC (row := ?_) rfl rfl H ?_ ?_ ?_ (hK _ _ ?_); rotate_left 1; (repeat first | exact .head _ | apply List.Mem.tail); (focus (intro _; simp; done)); (focus (intro _; simp; done)))); clear hK K) | (guard_target =~ wpList _ _ _ (Oper.mk _ (.store _ _ _) _ _ _ _ :: _) _ _; refine BigFrame.wpList_want rfl (fun K hK => ?_); refine o_store (l' := ?_) (row := ?_) rfl rfl H rfl ?_ ?_ ?_ ?_ (fun w3 H2 => hK _ _ ?_); rotate_left 2; (first | exact r0 | exact r1 | exact r4); (focus (intro _; simp [Act.eval, Value.cells]; done)); (focus (simp [Act.eval, Value.cells]; done)); (exact rfl); clear hK K; clear H; (try clear w2); revert w3; intro w2 H; simp [Act.eval, Value.cells, setL, List.getD] at H) | ((first | (guard_target =~ wpList _ _ _ (Oper.mk _ (.alloc _) _ _ _ _ :: _) _ _; refine BigFrame.wpList_want rfl (fun K hK => ?_); refine o_alloc (z := ?_) rfl ?_ H rfl (fun w3 b2 he H2 => hK _ _ ?_); rotate_left 1; (focus (intro _; simp; with_reducible exact rfl))) | (guard_target =~ wpList _ _ _ (Oper.mk _ (.box _ _) _ _ _ _ :: _) _ _; refine BigFrame.wpList_want rfl (fun K hK => ?_); refine o_box rfl H rfl (fun w3 b2 he H2 => hK _ _ ?_)) | (guard_target =~ wpList _ _ _ (Oper.mk _ (.buildSlice _ _ _) _ _ _ _ :: _) _ _; refine BigFrame.wpList_want rfl (fun K hK => ?_); refine o_buildSlice (C := ?_) (E := ?_) rfl rfl H ?_ rfl (fun w3 b2 he H2 => hK _ _ ?_); rotate_left 2; (focus (intro _; simp [go_sem, Instr.buildSlice]; with_reducible exact rfl)))); clear hK K he; clear H; (try clear w2); revert w3; intro w2 H; simp [Act.eval, Value.cells, setL, List.getD] at H; (first | (clear tk0; rename Nat => b1) | (clear tk1; rename Nat => b2) | (clear tk2; rename Nat => b3) | (clear tk3; rename Nat => b4) | (clear tk4; rename Nat => b5)))); simp only [Act.put, List.setIfInBounds_toArray, List.set_cons_succ, List.set_cons_zero]))
    have hr := H.loadVarN (P := Try.prog) (ty := 25) (b := b3) m4 (by simp) (by simp)
    exact bodyPost_ret (v := .agg #[.slice A7 (k + 1 + 1) c7, .slice A6 m c6]) (by simp [results, Try.results39, asAddr, hr]) rfl ⟨_, _, rfl, by
      rw [vR_app]
      exact H.tail.tail.sub (.cons_cons _ (.cons_cons _ (List.nil_sublist _)))⟩
  · obtain rfl : n = 0 := by omega
    obtain rfl : vs = [] := List.eq_nil_of_length_eq_zero hn.symm
    have e0 : lastV [] + 1 = 1 := rfl
    rw [e0]
    clear hn hm hb1 hb2 e0
    go_enter Try.func39, Try.ntmps39
    have tk0 : True := trivial
    have tk1 : True := trivial
    have tk2 : True := trivial
    have tk3 : True := trivial
    have tk4 : True := trivial
    go_wp2_with (first
      | (go_at_call 64; (with_reducible refine (hcp _ _ (by exact H.giveRd m4 f0) (by exact H.giveRd m3 f9)).mono ?_); rintro e w3 ⟨v1, v2, rfl, H2⟩; replace H := H.join H2 rfl; clear H2; simp only [List.cons_append, List.nil_append] at H; obtain ⟨A6, c6, rfl⟩ := H.growForm m0; obtain ⟨A8, c8, rfl⟩ := H.growForm m1; dsimp only)
      | (guard_target =~ wpList _ _ _ (_ :: _) _ _; (first | (guard_target =~ wpList _ _ _ (Oper.mk _ (.call { callee := .builtin .append, args := _, argTypes := _ }) _ _ _ _ :: _) _ _; refine BigFrame.wpList_want rfl (fun K hK => ?_); refine o_append (row := ?_) (n := ?_) (xs := ?_) (l' := ?_) infoVt rfl rfl rfl H ?_ rfl ?_ ?_ (by kernel_rfl) rfl (by decide) ?_ ?_ ?_ (fun v2 w3 H2 hn => hK _ _ ?_); rotate_left 4; (repeat first | exact .head _ | apply List.Mem.tail); (focus (simp; done)); (focus (intro _; (exact r2))); exact rfl; exact (by unfold maxLen; omega); exact (by omega); clear hK K hn; clear H; (try clear w2); revert w3; intro w2 H; simp only [List.take_succ_cons, List.take_zero, Nat.one_mul] at H; (obtain ⟨A7, c7, rfl⟩ := H.growForm (v := v2) (by repeat first | exact .head _ | apply List.Mem.tail))) | (guard_target =~ wpList _ _ _ (Oper.mk _ (.load _ _) _ _ _ _ :: _) _ _; refine BigFrame.wpList_want rfl (fun K hK => ?_); (first | (refine o_loadC (v := ?_) (row := ?_) rfl rfl H ?_ ?_ ?_ (hK _ _ ?_); rotate_left 2; (repeat first | exact .head _ | apply List.Mem.tail); (exact rfl); (focus (intro _; simp; done))) | (refine o_loadNC (row := ?_) rfl rfl H ?_ ?_ ?_ (hK _ _ ?_); rotate_left 1; (repeat first | exact .head _ | apply List.Mem.tail); (focus (intro _; simp; done)); (focus (intro _; simp; done)))); clear hK K) | (guard_target =~ wpList _ _ _ (Oper.mk _ (.store _ _ _) _ _ _ _ :: _) _ _; refine BigFrame.wpList_want rfl (fun K hK => ?_); refine o_store (l' := ?_) (row := ?_) rfl rfl H rfl ?_ ?_ ?_ ?_ (fun w3 H2 => hK _ _ ?_); rotate_left 2; (first | exact r0 | exact r1 | exact r4); (focus (intro _; simp [Act.eval, Value.cells]; done)); (focus (simp [Act.eval, Value.cells]; done)); (exact rfl); clear hK K; clear H; (try clear w2); revert w3; intro w2 H; simp [Act.eval, Value.cells, setL, List.getD] at H) | ((first | (guard_target =~ wpList _ _ _ (Oper.mk _ (.alloc _) _ _ _ _ :: _) _ _; refine BigFrame.wpList_want rfl (fun K hK => ?_); refine o_alloc (z := ?_) rfl ?_ H rfl (fun w3 b2 he H2 => hK _ _ ?_); rotate_left 1; (focus (intro _; simp; with_reducible exact rfl))) | (guard_target =~ wpList _ _ _ (Oper.mk _ (.box _ _) _ _ _ _ :: _) _ _; refine BigFrame.wpList_want rfl (fun K hK => ?_); refine o_box rfl H rfl (fun w3 b2 he H2 => hK _ _ ?_)) | (guard_target =~ wpList _ _ _ (Oper.mk _ (.buildSlice _ _ _) _ _ _ _ :: _) _ _; refine BigFrame.wpList_want rfl (fun K hK => ?_); refine o_buildSlice (C := ?_) (E := ?_) rfl rfl H ?_ rfl (fun w3 b2 he H2 => hK _ _ ?_); rotate_left 2; (focus (intro _; simp [go_sem, Instr.buildSlice]; with_reducible exact rfl)))); clear hK K he; clear H; (try clear w2); revert w3; intro w2 H; simp [Act.eval, Value.cells, setL, List.getD] at H; (first | (clear tk0; rename Nat => b1) | (clear tk1; rename Nat => b2) | (clear tk2; rename Nat => b3) | (clear tk3; rename Nat => b4) | (clear tk4; rename Nat => b5)))); simp only [Act.put, List.setIfInBounds_toArray, List.set_cons_succ, List.set_cons_zero]))
    have hr := H.loadVarN (P := Try.prog) (ty := 25) (b := b3) m4 (by simp) (by simp)
    exact bodyPost_ret (v := .agg #[.slice A7 1 c7, .slice A8 m c8]) (by simp [results, Try.results39, asAddr, hr]) rfl ⟨_, _, rfl, H.tail.tail.sub (.cons_cons _ (.cons_cons _ (List.nil_sublist _)))⟩
set_option maxRecDepth 100000 in
set_option maxHeartbeats 8000000 in
theorem plLink_any (vs : List Vt) (es : List Eg) (n m : Nat) (A A2 : Option Addr) (c c2 : Nat) (F : Nat → Prop) (p q : Int) (w : World) (hn : n = vs.length) (hm : m = es.length) (hs : Sl F w A (vR vs)) (hs2 : Sl F w A2 (eR es)) (hl : n ≤ 1000000) (hl2 : m ≤ 1000000)
    (hb1 : -9223372036854775808 ≤ lastE es + 1) (hb2 : lastE es + 1 ≤ 9223372036854775807) :
    Calls Try.prog 40 #[.agg #[.slice A n c, .slice A2 m c2], .int .i64 p, .int .i64 q] w (RetG w n (m + 1) vs (es ++ [⟨lastE es + 1, p, q⟩])) := by
  obtain ⟨b0, o0, H1, f0⟩ := (Own.start w).addSl (hs.ro (by rfl))
  obtain ⟨b9, o9, H, f9⟩ := H1.addSl (hs2.ro (by rfl))
  clear hs hs2 H1
  have hcp := fun F w h1 h2 => copied_any vs es n m A A2 c c2 F w hn hm h1 h2 hl hl2
  by_cases hv : 0 < m
  · obtain ⟨k, rfl⟩ : ∃ k, m = k + 1 := ⟨m - 1, by omega⟩
    obtain ⟨i, x, y, he⟩ := eg_at es (k := k) (by omega)
    have hlast : lastE es = i := by
      have := lastE_step he
      rwa [hm, List.take_length] at this
    rw [hlast] at hb1 hb2 ⊢
    have hat : ((eR es).drop (k * 3)).take [Value.int .i64 i].length = [Value.int .i64 i] := sub_at (flat3_at _ (fun _ => rfl) es k _ he) 0 1 (by omega)
    have HAT := Lib.hid hat
    have hsum : IntKind.i64.wrap (i + 1) = i + 1 := IntWalk.i64_in _ ⟨hb1, hb2⟩
    have hck : (((k + 1 : Nat) : Int) - 1) = (k : Int) := by omega
    clear hn hm hlast hb1 hb2 he hat
    go_enter Try.func40, Try.ntmps40
    have tk0 : True := trivial
    have tk1 : True := trivial
    have tk2 : True := trivial
    have tk3 : True := trivial
    go_wp2_with (first
      | (go_at_call 64; (with_reducible refine (hcp _ _ (by exact H.giveRd m3 f0) (by exact H.giveRd m2 f9)).mono ?_); rintro e w3 ⟨v1, v2, rfl, H2⟩; replace H := H.join H2 rfl; clear H2; simp only [List.cons_append, List.nil_append] at H; obtain ⟨d5, c5, rfl⟩ := H.growSome m1 (by omega) (by decide); obtain ⟨A6, c6, rfl⟩ := H.growForm m0; have hp := at_grow (e := 45) (size := 3) (n := k + 1) (b := d5) (c := c5) (o := k * 3) HAT.out; dsimp only)
      | (guard_target =~ wpList _ _ _ (_ :: _) _ _; (first | (guard_target =~ wpList _ _ _ (Oper.mk _ (.call { callee := .builtin .append, args := _, argTypes := _ }) _ _ _ _ :: _) _ _; refine BigFrame.wpList_want rfl (fun K hK => ?_); refine o_append (row := ?_) (n := ?_) (xs := ?_) (l' := ?_) infoEg rfl rfl rfl H ?_ rfl ?_ ?_ (by kernel_rfl) rfl (by decide) ?_ ?_ ?_ (fun v2 w3 H2 hn => hK _ _ ?_); rotate_left 4; (repeat first | exact .head _ | apply List.Mem.tail); (focus (simp; done)); (focus (intro _; (exact r3))); exact rfl; exact (by unfold maxLen; omega); exact (by omega); clear hK K hn; clear H; (try clear w2); revert w3; intro w2 H; simp only [List.take_succ_cons, List.take_zero, Nat.one_mul] at H; (obtain ⟨A7, c7, rfl⟩ := H.growForm (v := v2) (by repeat first | exact .head _ | apply List.Mem.tail))) | (guard_target =~ wpList _ _ _ (Oper.mk _ (.load _ _) _ _ _ _ :: _) _ _; refine BigFrame.wpList_want rfl (fun K hK => ?_); (first | (refine o_load (v := ?_) (r := ?_) rfl rfl H ?_ ?_ ?_ (hK _ _ ?_); rotate_left 2; (with_reducible assumption); (repeat first | exact .head _ | apply List.Mem.tail); (focus (intro _; simp; done))) | (refine o_loadC (v := ?_) (row := ?_) rfl rfl H ?_ ?_ ?_ (hK _ _ ?_); rotate_left 2; (repeat first | exact .head _ | apply List.Mem.tail); (exact rfl); (focus (intro _; simp; done))) | (refine o_loadNC (row := ?_) rfl rfl H ?_ ?_ ?_ (hK _ _ ?_); rotate_left 1; (repeat first | exact .head _ | apply List.Mem.tail); (focus (intro _; simp; done)); (focus (intro _; simp; done)))); clear hK K) | (guard_target =~ wpList _ _ _ (Oper.mk _ (.store _ _ _) _ _ _ _ :: _) _ _; refine BigFrame.wpList_want rfl (fun K hK => ?_); refine o_store (l' := ?_) (row := ?_) rfl rfl H rfl ?_ ?_ ?_ ?_ (fun w3 H2 => hK _ _ ?_); rotate_left 2; (first | exact r0 | exact r1 | exact r4); (focus (intro _; simp [Act.eval, Value.cells]; done)); (focus (simp [Act.eval, Value.cells]; done)); (exact rfl); clear hK K; clear H; (try clear w2); revert w3; intro w2 H; simp [Act.eval, Value.cells, setL, List.getD] at H) | ((first | (guard_target =~ wpList _ _ _ (Oper.mk _ (.alloc _) _ _ _ _ :: _) _ _; refine BigFrame.wpList_want rfl (fun K hK => ?_); refine o_alloc (z := ?_) rfl ?_ H rfl (fun w3 b2 he H2 => hK _ _ ?_); rotate_left 1; (focus (intro _; simp; with_reducible exact rfl))) | (guard_target =~ wpList _ _ _ (Oper.mk _ (.box _ _) _ _ _ _ :: _) _ _; refine BigFrame.wpList_want rfl (fun K hK => ?_); refine o_box rfl H rfl (fun w3 b2 he H2 => hK _ _ ?_)) | (guard_target =~ wpList _ _ _ (Oper.mk _ (.buildSlice _ _ _) _ _ _ _ :: _) _ _; refine BigFrame.wpList_want rfl (fun K hK => ?_); refine o_buildSlice (C := ?_) (E := ?_) rfl rfl H ?_ rfl (fun w3 b2 he H2 => hK _ _ ?_); rotate_left 2; (focus (intro _; simp [go_sem, Instr.buildSlice]; with_reducible exact rfl)))); clear hK K he; clear H; (try clear w2); revert w3; intro w2 H; simp [Act.eval, Value.cells, setL, List.getD] at H; (first | (clear tk0; rename Nat => b1) | (clear tk1; rename Nat => b2) | (clear tk2; rename Nat => b3) | (clear tk3; rename Nat => b4)))); simp only [Act.put, List.setIfInBounds_toArray, List.set_cons_succ, List.set_cons_zero]))
    have hr := H.loadVarN (P := Try.prog) (ty := 25) (b := b2) m4 (by simp) (by simp)
    exact bodyPost_ret (v := .agg #[.slice A6 n c6, .slice A7 (k + 1 + 1) c7]) (by simp [results, Try.results40, asAddr, hr]) rfl ⟨_, _, rfl, by
      rw [eR_app]
      exact H.tail.tail.sub (.cons_cons _ (.cons_cons _ (List.nil_sublist _)))⟩
  · obtain rfl : m = 0 := by omega
    obtain rfl : es = [] := List.eq_nil_of_length_eq_zero hm.symm
    have e0 : lastE [] + 1 = 1 := rfl
    rw [e0]
    clear hn hm hb1 hb2 e0
    go_enter Try.func40, Try.ntmps40
    have tk0 : True := trivial
    have tk1 : True := trivial
    have tk2 : True := trivial
    have tk3 : True := trivial
    go_wp2_with (first
      | (go_at_call 64; (with_reducible refine (hcp _ _ (by exact H.giveRd m3 f0) (by exact H.giveRd m2 f9)).mono ?_); rintro e w3 ⟨v1, v2, rfl, H2⟩; replace H := H.join H2 rfl; clear H2; simp only [List.cons_append, List.nil_append] at H; obtain ⟨A6, c6, rfl⟩ := H.growForm m0; obtain ⟨A8, c8, rfl⟩ := H.growForm m1; dsimp only)
      | (guard_target =~ wpList _ _ _ (_ :: _) _ _; (first | (guard_target =~ wpList _ _ _ (Oper.mk _ (.call { callee := .builtin .append, args := _, argTypes := _ }) _ _ _ _ :: _) _ _; refine BigFrame.wpList_want rfl (fun K hK => ?_); refine o_append (row := ?_) (n := ?_) (xs := ?_) (l' := ?_) infoEg rfl rfl rfl H ?_ rfl ?_ ?_ (by kernel_rfl) rfl (by decide) ?_ ?_ ?_ (fun v2 w3 H2 hn => hK _ _ ?_); rotate_left 4; (repeat first | exact .head _ | apply List.Mem.tail); (focus (simp; done)); (focus (intro _; (exact r3))); exact rfl; exact (by unfold maxLen; omega); exact (by omega); clear hK K hn; clear H; (try clear w2); revert w3; intro w2 H; simp only [List.take_succ_cons, List.take_zero, Nat.one_mul] at H; (obtain ⟨A7, c7, rfl⟩ := H.growForm (v := v2) (by repeat first | exact .head _ | apply List.Mem.tail))) | (guard_target =~ wpList _ _ _ (Oper.mk _ (.load _ _) _ _ _ _ :: _) _ _; refine BigFrame.wpList_want rfl (fun K hK => ?_); (first | (refine o_loadC (v := ?_) (row := ?_) rfl rfl H ?_ ?_ ?_ (hK _ _ ?_); rotate_left 2; (repeat first | exact .head _ | apply List.Mem.tail); (exact rfl); (focus (intro _; simp; done))) | (refine o_loadNC (row := ?_) rfl rfl H ?_ ?_ ?_ (hK _ _ ?_); rotate_left 1; (repeat first | exact .head _ | apply List.Mem.tail); (focus (intro _; simp; done)); (focus (intro _; simp; done)))); clear hK K) | (guard_target =~ wpList _ _ _ (Oper.mk _ (.store _ _ _) _ _ _ _ :: _) _ _; refine BigFrame.wpList_want rfl (fun K hK => ?_); refine o_store (l' := ?_) (row := ?_) rfl rfl H rfl ?_ ?_ ?_ ?_ (fun w3 H2 => hK _ _ ?_); rotate_left 2; (first | exact r0 | exact r1 | exact r4); (focus (intro _; simp [Act.eval, Value.cells]; done)); (focus (simp [Act.eval, Value.cells]; done)); (exact rfl); clear hK K; clear H; (try clear w2); revert w3; intro w2 H; simp [Act.eval, Value.cells, setL, List.getD] at H) | ((first | (guard_target =~ wpList _ _ _ (Oper.mk _ (.alloc _) _ _ _ _ :: _) _ _; refine BigFrame.wpList_want rfl (fun K hK => ?_); refine o_alloc (z := ?_) rfl ?_ H rfl (fun w3 b2 he H2 => hK _ _ ?_); rotate_left 1; (focus (intro _; simp; with_reducible exact rfl))) | (guard_target =~ wpList _ _ _ (Oper.mk _ (.box _ _) _ _ _ _ :: _) _ _; refine BigFrame.wpList_want rfl (fun K hK => ?_); refine o_box rfl H rfl (fun w3 b2 he H2 => hK _ _ ?_)) | (guard_target =~ wpList _ _ _ (Oper.mk _ (.buildSlice _ _ _) _ _ _ _ :: _) _ _; refine BigFrame.wpList_want rfl (fun K hK => ?_); refine o_buildSlice (C := ?_) (E := ?_) rfl rfl H ?_ rfl (fun w3 b2 he H2 => hK _ _ ?_); rotate_left 2; (focus (intro _; simp [go_sem, Instr.buildSlice]; with_reducible exact rfl)))); clear hK K he; clear H; (try clear w2); revert w3; intro w2 H; simp [Act.eval, Value.cells, setL, List.getD] at H; (first | (clear tk0; rename Nat => b1) | (clear tk1; rename Nat => b2) | (clear tk2; rename Nat => b3) | (clear tk3; rename Nat => b4)))); simp only [Act.put, List.setIfInBounds_toArray, List.set_cons_succ, List.set_cons_zero]))
    have hr := H.loadVarN (P := Try.prog) (ty := 25) (b := b2) m4 (by simp) (by simp)
    exact bodyPost_ret (v := .agg #[.slice A6 n c6, .slice A7 1 c7]) (by simp [results, Try.results40, asAddr, hr]) rfl ⟨_, _, rfl, H.tail.tail.sub (.cons_cons _ (.cons_cons _ (List.nil_sublist _)))⟩
def DropRel (w : World) (A A2 : Option Addr) (b0 o0 b9 o9 b1 b2 b3 n m c c2 : Nat) (vs : List Vt) (es : List Eg) (id : Int) (k : Nat) (i : Value) (wr : World) : Prop :=
  ∃ (j : Nat) (l : List Vt) (Ag : Option Addr) (cg : Nat), j + k = n ∧ i = .int .i64 (j : Int) ∧ l = (vs.take j).filter (fun v => v.id != id) ∧
    Own w.heap.size w wr [.grow 40 3 (.slice Ag l.length cg) l.length (vR l), .cells b3 [.slice Ag l.length cg, .slice A2 m c2], .cells b2 [.slice none 0 0, .slice none 0 0], .cells b1 [.slice A n c, .slice A2 m c2], .rd A2 b9 o9 (eR es), .rd A b0 o0 (vR vs)]
set_option maxRecDepth 100000 in
set_option maxHeartbeats 8000000 in
theorem plDrop_any (vs : List Vt) (es : List Eg) (n m : Nat) (A A2 : Option Addr) (c c2 : Nat) (F : Nat → Prop) (id : Int) (w : World) (hn : n = vs.length) (hm : m = es.length) (hs : Sl F w A (vR vs)) (hs2 : Sl F w A2 (eR es)) (hl : n ≤ 1000000) (hl2 : m ≤ 1000000) :
    Calls Try.prog 41 #[.agg #[.slice A n c, .slice A2 m c2], .int .i64 id] w (RetG w (vs.filter fun v => v.id != id).length m (vs.filter fun v => v.id != id) es) := by
  obtain ⟨b0, o0, H1, f0⟩ := (Own.start w).addSl (hs.ro (by rfl))
  obtain ⟨b9, o9, H0, f9⟩ := H1.addSl (hs2.ro (by rfl))
  clear hs hs2 H1
  have H := H0
  have HN := Lib.hid hn
  have HM := Lib.hid hm
  clear hn hm H0
  go_enter Try.func41, Try.ntmps41
  have tk0 : True := trivial
  have tk1 : True := trivial
  have tk2 : True := trivial
  go_wp2_with (guard_target =~ wpList _ _ _ (_ :: _) _ _; (first | (guard_target =~ wpList _ _ _ (Oper.mk _ (.load _ _) _ _ _ _ :: _) _ _; refine BigFrame.wpList_want rfl (fun K hK => ?_); (refine o_loadC (v := ?_) (row := ?_) rfl rfl H ?_ ?_ ?_ (hK _ _ ?_); rotate_left 2; (repeat first | exact .head _ | apply List.Mem.tail); (exact rfl); (focus (intro _; simp; done))); clear hK K) | (guard_target =~ wpList _ _ _ (Oper.mk _ (.store _ _ _) _ _ _ _ :: _) _ _; refine BigFrame.wpList_want rfl (fun K hK => ?_); refine o_store (l' := ?_) (row := ?_) rfl rfl H rfl ?_ ?_ ?_ ?_ (fun w3 H2 => hK _ _ ?_); rotate_left 2; (exact r0); (focus (intro _; simp [Act.eval, Value.cells]; done)); (focus (simp [Act.eval, Value.cells]; done)); (exact rfl); clear hK K; clear H; (try clear w2); revert w3; intro w2 H; simp [Act.eval, Value.cells, setL, List.getD] at H) | ((first | (guard_target =~ wpList _ _ _ (Oper.mk _ (.alloc _) _ _ _ _ :: _) _ _; refine BigFrame.wpList_want rfl (fun K hK => ?_); refine o_alloc (z := ?_) rfl ?_ H rfl (fun w3 b2 he H2 => hK _ _ ?_); rotate_left 1; (focus (intro _; simp; with_reducible exact rfl))) | (guard_target =~ wpList _ _ _ (Oper.mk _ (.box _ _) _ _ _ _ :: _) _ _; refine BigFrame.wpList_want rfl (fun K hK => ?_); refine o_box rfl H rfl (fun w3 b2 he H2 => hK _ _ ?_))); clear hK K he; clear H; (try clear w2); revert w3; intro w2 H; simp [Act.eval, Value.cells, setL, List.getD] at H; (first | (clear tk0; rename Nat => b1) | (clear tk1; rename Nat => b2) | (clear tk2; rename Nat => b3)))); simp only [Act.put, List.setIfInBounds_toArray, List.set_cons_succ, List.set_cons_zero])
  go_loopg [6] n (DropRel w A A2 b0 o0 b9 o9 b1 b2 b3 n m c c2 vs es id)
  case atStart => exact ⟨0, [], none, 0, Nat.zero_add _, rfl, by simp, H.grow_nil 40 3⟩
  case round =>
    clear H
    obtain ⟨j, l, Ag, cg, hk, rfl, hfl, H⟩ := hrel
    have HFL := Lib.hid hfl
    have hll : l.length ≤ n := by have hn := HN.out; have hm := HM.out; rw [hfl]; have := List.length_filter_le (fun v => v.id != id) (vs.take j); have := List.length_take_le j vs; have : (vs.take j).length ≤ vs.length := List.length_take_le' _ _; omega
    clear hfl
    by_cases hlt : j < n
    · obtain ⟨i, x, y, he⟩ := vt_at vs (k := j) (by have hn := HN.out; have hm := HM.out; omega)
      obtain rfl := H.rdAddr m5 (vR_pos he)
      have hp1 := at_vid (A := some ⟨b0, o0, none⟩) (b := b0) (off := o0) he
      have hp2 := at_v (A := some ⟨b0, o0, none⟩) (b := b0) (off := o0) he
      obtain ⟨v1, hv1⟩ : ∃ v, (i == id) = v := ⟨_, rfl⟩
      have hv2 : (i != id) = !v1 := by rw [bne, hv1]
      have hstep : (vs.take (j + 1)).filter (fun v => v.id != id) = (vs.take j).filter (fun v => v.id != id) ++ if v1 then [] else [⟨i, ⟨x, y⟩⟩] := by
        rw [List.take_add_one, he, List.filter_append]
        cases v1 <;> simp_all
      have HST := Lib.hid hstep
      have HK := Lib.hid hk
      clear he hstep hk
      cases v1
      · simp only [Bool.not_false] at hv2
        have tk0 : True := trivial
        go_wp2_with (first
          | (guard_target =~ Code.wp _ (Code.region 6 _ true) _ _ _; refine region_treeC 6 1 (G := True) (.q 0 (.q 1 (.q 2 (.q 3 (.q 4 (.q 5 (.q 6 (.e 7 (.e 8 (.q 9 (.e 10 .nil))))))))))) (by kernel_rfl) (by intro c a d v w h; cases d <;> exact h) (by kernel_rfl) H ⟨trivial⟩ (fun _ w3 H2 => ?_); (clear H; (try clear w2); revert w3; intro w2 H); simp only [List.drop_succ_cons, List.drop_zero])
          | (guard_target =~ wpList _ _ _ (_ :: _) _ _; (guard_target =~ wpList _ _ _ (Oper.mk _ (.load _ _) _ _ _ _ :: _) _ _; refine BigFrame.wpList_want rfl (fun K hK => ?_); (first | (refine o_load (v := ?_) (r := ?_) rfl rfl H ?_ ?_ ?_ (hK _ _ ?_); rotate_left 2; (with_reducible assumption); (repeat first | exact .head _ | apply List.Mem.tail); (focus (intro _; simp; done))) | (refine o_loadC (v := ?_) (row := ?_) rfl rfl H ?_ ?_ ?_ (hK _ _ ?_); rotate_left 2; (repeat first | exact .head _ | apply List.Mem.tail); (exact rfl); (focus (intro _; simp; done)))); clear hK K); simp only [Act.put, List.setIfInBounds_toArray, List.set_cons_succ, List.set_cons_zero])
          | (guard_target =~ wpTreeC _ _ _ _ _ _ _; first | (guard_target =~ wpTreeC _ _ _ (Tr.e _ Tr.nil) _ _ _; refine treeC_last (by kernel_rfl) H rfl rfl (fun w3 H2 K hK => ?_); clear H; (try clear w2); (revert w3; intro w2 H); simp only [List.getElem_toArray, List.getElem_cons_succ, List.getElem_cons_zero]; (guard_target =~ Oper.wp _ (Oper.mk _ (.store _ _ _) _ _ _ _) _ _ _ _; refine o_store (l' := ?_) (row := ?_) rfl rfl H rfl ?_ ?_ ?_ ?_ (fun w3 H2 => hK _ _ ?_); rotate_left 2; (exact r2); (focus (intro _; simp [Act.eval, Value.cells]; done)); (focus (simp [Act.eval, Value.cells]; done)); (exact rfl); clear hK K; clear H; (try clear w2); revert w3; intro w2 H; simp [Act.eval, Value.cells, setL, List.getD] at H); simp only [Act.put, List.setIfInBounds_toArray, List.set_cons_succ, List.set_cons_zero]) | (guard_target =~ wpTreeC _ _ _ (Tr.q _ _) _ _ _; first | (refine treeC_quiet ⟨_, H, by repeat first | exact .here | apply Suf.there⟩ rfl rfl rfl (fun K hK => ?_); simp only [List.getElem_toArray, List.getElem_cons_succ, List.getElem_cons_zero]; first | (guard_target =~ Oper.quiet _ (Oper.mk _ (.load _ _) _ _ _ _) _ _ _; (first | (refine q_loadC (v := ?_) (row := ?_) rfl rfl ?_ ?_ ?_ (hK _ ?_); rotate_left 2; (repeat first | exact .head _ | apply List.Mem.tail); (exact rfl); (focus (intro _; simp; done))) | (refine q_loadN (cs := ?_) (r := ?_) rfl rfl ?_ ?_ ?_ ?_ (hK _ ?_); rotate_left 2; (with_reducible assumption); (repeat first | exact .head _ | apply List.Mem.tail); (focus (intro _; simp; done)); (focus (intro _; simp; done)))); clear hK K; simp only [Act.put, List.setIfInBounds_toArray, List.set_cons_succ, List.set_cons_zero]) | (go_big_quiet_op; (try refine ⟨_, fun _ _ => rfl, ?_⟩); refine hK _ ?_; clear hK K)) | (refine treeC_call (v := ?_) ⟨_, H, by repeat first | exact .here | apply Suf.there⟩ rfl rfl (fun w3 H K hK => ?_) ?_; rotate_left 1; (focus (simp only [List.getElem_toArray, List.getElem_cons_succ, List.getElem_cons_zero]; go_big_op; first | skip)); simp only [List.getElem_toArray, List.getElem_cons_succ, List.getElem_cons_zero, Act.put, List.setIfInBounds_toArray, List.set_cons_succ, List.set_cons_zero]) | (refine treeC_skip ⟨_, H, by repeat first | exact .here | apply Suf.there⟩ rfl rfl ?_; simp only [List.getElem_toArray, List.getElem_cons_succ, List.getElem_cons_zero, Act.put, List.setIfInBounds_toArray, List.set_cons_succ, List.set_cons_zero])) | (guard_target =~ wpTreeC _ _ _ (Tr.both _ _) _ _ _; refine treeC_both ?_ ?_) | (guard_target =~ wpTreeC _ _ _ (Tr.e _ _) _ _ _; first | (refine treeC_one H rfl rfl (fun w3 H2 K hK => ?_); clear H; (try clear w2); (revert w3; intro w2 H); simp only [List.getElem_toArray, List.getElem_cons_succ, List.getElem_cons_zero]; first | ((first | (guard_target =~ Oper.wp _ (Oper.mk _ (.call { callee := .builtin .append, args := _, argTypes := _ }) _ _ _ _) _ _ _ _; refine o_append (row := ?_) (n := ?_) (xs := ?_) (l' := ?_) infoVt rfl rfl rfl H ?_ rfl ?_ ?_ (by kernel_rfl) rfl (by decide) ?_ ?_ ?_ (fun v2 w3 H2 hn => hK _ _ ⟨_, H2, ?_⟩ ?_); rotate_left 4; (repeat first | exact .head _ | apply List.Mem.tail); (focus (simp; done)); (focus (intro _; (exact r1))); exact rfl; exact (by unfold maxLen; omega); exact (by omega); (guard_target =~ Suf _ _; repeat first | exact .here | apply Suf.there); clear hK K hn; clear H; (try clear w2); revert w3; intro w2 H; simp only [List.take_succ_cons, List.take_zero, Nat.one_mul] at H; (obtain ⟨A7, c7, rfl⟩ := H.growForm (v := v2) (by repeat first | exact .head _ | apply List.Mem.tail))) | ((guard_target =~ Oper.wp _ (Oper.mk _ (.buildSlice _ _ _) _ _ _ _) _ _ _ _; refine o_buildSlice (C := ?_) (E := ?_) rfl rfl H ?_ rfl (fun w3 b2 he H2 => hK _ _ ⟨_, H2, ?_⟩ ?_); rotate_left 2; (focus (intro _; simp [go_sem, Instr.buildSlice]; with_reducible exact rfl))); (guard_target =~ Suf _ _; repeat first | exact .here | apply Suf.there); clear hK K he; clear H; (try clear w2); revert w3; intro w2 H; simp [Act.eval, Value.cells, setL, List.getD] at H; (clear tk0; rename Nat => b5))); simp only [Act.put, List.setIfInBounds_toArray, List.set_cons_succ, List.set_cons_zero]) | (go_big_op; (first | fail))) | (refine treeC_one_skip (fun w3 hx => ⟨_, H.ext hx, by repeat first | exact .here | apply Suf.there⟩) rfl rfl (fun w3 hx => ?_); replace H := H.ext hx; clear hx; (try clear w2); revert w3; intro w2 H; simp only [List.getElem_toArray, List.getElem_cons_succ, List.getElem_cons_zero, Act.put, List.setIfInBounds_toArray, List.set_cons_succ, List.set_cons_zero])) | (guard_target =~ wpTreeC _ _ _ Tr.nil _ _ _; refine treeC_nil H (fun w3 H2 => ?_); clear H; (try clear w2); revert w3; intro w2 H)))
        go_roundg (gk - 1)
        case rel =>
          refine ⟨j + 1, l ++ [⟨i, ⟨x, y⟩⟩], A7, c7, by have := HK.out; omega, by congr 1, by rw [HST.out, HFL.out]; rfl, ?_⟩
          rw [vR_app, List.length_append]
          exact H.tail
        case measure => have := HK.out; omega
      · simp only [Bool.not_true] at hv2
        have tk0 : True := trivial
        go_wp2_with (guard_target =~ wpList _ _ _ (_ :: _) _ _; (guard_target =~ wpList _ _ _ (Oper.mk _ (.load _ _) _ _ _ _ :: _) _ _; refine BigFrame.wpList_want rfl (fun K hK => ?_); (first | (refine o_load (v := ?_) (r := ?_) rfl rfl H ?_ ?_ ?_ (hK _ _ ?_); rotate_left 2; (with_reducible assumption); (repeat first | exact .head _ | apply List.Mem.tail); (focus (intro _; simp; done))) | (refine o_loadC (v := ?_) (row := ?_) rfl rfl H ?_ ?_ ?_ (hK _ _ ?_); rotate_left 2; (repeat first | exact .head _ | apply List.Mem.tail); (exact rfl); (focus (intro _; simp; done)))); clear hK K); simp only [Act.put, List.setIfInBounds_toArray, List.set_cons_succ, List.set_cons_zero])
        go_roundg (gk - 1)
        case rel => exact ⟨j + 1, l, Ag, cg, by have := HK.out; omega, by congr 1, by rw [HST.out, HFL.out]; simp, H⟩
        case measure => have := HK.out; omega
    · obtain rfl : gk = 0 := by omega
      obtain rfl : j = n := by omega
      have hfin : vs.filter (fun v => v.id != id) = l := by rw [HFL.out, HN.out, List.take_length]
      have HF := Lib.hid hfin
      clear hfin
      obtain ⟨A8, b8, c8, hv, hc1, hc2, H, hB⟩ := H.growRd
      obtain ⟨rfl, rfl⟩ : Ag = A8 ∧ cg = c8 := by injection hv with h1 h2 h3; exact ⟨h1, h3⟩
      have fb : 0 < (vR l).length → ¬ (fun _ : Nat => False) b8 := fun h hf => hf
      have fn : 0 < (eR es).length → ¬ (fun _ : Nat => False) b9 := fun h hf => hf
      have hcp := fun F w h1 h2 => copied_any l es l.length m Ag A2 cg c2 F w rfl HM.out h1 h2 (by omega) (by omega)
      clear hv
      have tk0 : True := trivial
      go_wp2_with (first
        | (go_at_call 64; (with_reducible refine (hcp (FW (fun _ => False) _) _ (by exact H.giveRd m0 fb) (by exact H.giveRd m4 fn)).mono ?_); rintro e w3 ⟨v1, v2, rfl, H2⟩; replace H := H.join H2 rfl; clear H2; simp only [List.cons_append, List.nil_append] at H; obtain ⟨A5, c5, rfl⟩ := H.growForm m0; obtain ⟨A6, c6, rfl⟩ := H.growForm m1; dsimp only)
        | (guard_target =~ wpList _ _ _ (_ :: _) _ _; (first | (guard_target =~ wpList _ _ _ (Oper.mk _ (.load _ _) _ _ _ _ :: _) _ _; refine BigFrame.wpList_want rfl (fun K hK => ?_); (first | (refine o_loadC (v := ?_) (row := ?_) rfl rfl H ?_ ?_ ?_ (hK _ _ ?_); rotate_left 2; (repeat first | exact .head _ | apply List.Mem.tail); (exact rfl); (focus (intro _; simp; done))) | (refine o_loadNC (row := ?_) rfl rfl H ?_ ?_ ?_ (hK _ _ ?_); rotate_left 1; (repeat first | exact .head _ | apply List.Mem.tail); (focus (intro _; simp; done)); (focus (intro _; simp; done)))); clear hK K) | (guard_target =~ wpList _ _ _ (Oper.mk _ (.store _ _ _) _ _ _ _ :: _) _ _; refine BigFrame.wpList_want rfl (fun K hK => ?_); refine o_store (l' := ?_) (row := ?_) rfl rfl H rfl ?_ ?_ ?_ ?_ (fun w3 H2 => hK _ _ ?_); rotate_left 2; (exact r4); (focus (intro _; simp [Act.eval, Value.cells]; done)); (focus (simp [Act.eval, Value.cells]; done)); (exact rfl); clear hK K; clear H; (try clear w2); revert w3; intro w2 H; simp [Act.eval, Value.cells, setL, List.getD] at H)); simp only [Act.put, List.setIfInBounds_toArray, List.set_cons_succ, List.set_cons_zero]))
      have hr := H.loadVarN (P := Try.prog) (ty := 25) (b := b2) m4 (by simp) (by simp)
      refine bodyPost_ret (v := .agg #[.slice A5 l.length c5, .slice A6 m c6]) (by simp [results, Try.results41, asAddr, hr]) rfl ?_
      rw [HF.out]
      exact ⟨_, _, rfl, H.sub (.cons_cons _ (.cons_cons _ (List.nil_sublist _)))⟩
def CutRel (w : World) (A A2 : Option Addr) (b0 o0 b9 o9 b1 b2 b3 n m c c2 : Nat) (vs : List Vt) (es : List Eg) (id : Int) (k : Nat) (i : Value) (wr : World) : Prop :=
  ∃ (j : Nat) (l : List Eg) (Ag : Option Addr) (cg : Nat), j + k = m ∧ i = .int .i64 (j : Int) ∧ l = (es.take j).filter (fun v => v.id != id) ∧
    Own w.heap.size w wr [.grow 45 3 (.slice Ag l.length cg) l.length (eR l), .cells b3 [.slice A n c, .slice Ag l.length cg], .cells b2 [.slice none 0 0, .slice none 0 0], .cells b1 [.slice A n c, .slice A2 m c2], .rd A2 b9 o9 (eR es), .rd A b0 o0 (vR vs)]
set_option maxRecDepth 100000 in
set_option maxHeartbeats 8000000 in
theorem plCut_any (vs : List Vt) (es : List Eg) (n m : Nat) (A A2 : Option Addr) (c c2 : Nat) (F : Nat → Prop) (id : Int) (w : World) (hn : n = vs.length) (hm : m = es.length) (hs : Sl F w A (vR vs)) (hs2 : Sl F w A2 (eR es)) (hl : n ≤ 1000000) (hl2 : m ≤ 1000000) :
    Calls Try.prog 42 #[.agg #[.slice A n c, .slice A2 m c2], .int .i64 id] w (RetG w n (es.filter fun v => v.id != id).length vs (es.filter fun v => v.id != id)) := by
  obtain ⟨b0, o0, H1, f0⟩ := (Own.start w).addSl (hs.ro (by rfl))
  obtain ⟨b9, o9, H0, f9⟩ := H1.addSl (hs2.ro (by rfl))
  clear hs hs2 H1
  have H := H0
  have HN := Lib.hid hn
  have HM := Lib.hid hm
  clear hn hm H0
  go_enter Try.func42, Try.ntmps42
  have tk0 : True := trivial
  have tk1 : True := trivial
  have tk2 : True := trivial
  go_wp2_with (guard_target =~ wpList _ _ _ (_ :: _) _ _; (first | (guard_target =~ wpList _ _ _ (Oper.mk _ (.load _ _) _ _ _ _ :: _) _ _; refine BigFrame.wpList_want rfl (fun K hK => ?_); (refine o_loadC (v := ?_) (row := ?_) rfl rfl H ?_ ?_ ?_ (hK _ _ ?_); rotate_left 2; (repeat first | exact .head _ | apply List.Mem.tail); (exact rfl); (focus (intro _; simp; done))); clear hK K) | (guard_target =~ wpList _ _ _ (Oper.mk _ (.store _ _ _) _ _ _ _ :: _) _ _; refine BigFrame.wpList_want rfl (fun K hK => ?_); refine o_store (l' := ?_) (row := ?_) rfl rfl H rfl ?_ ?_ ?_ ?_ (fun w3 H2 => hK _ _ ?_); rotate_left 2; (exact r0); (focus (intro _; simp [Act.eval, Value.cells]; done)); (focus (simp [Act.eval, Value.cells]; done)); (exact rfl); clear hK K; clear H; (try clear w2); revert w3; intro w2 H; simp [Act.eval, Value.cells, setL, List.getD] at H) | ((first | (guard_target =~ wpList _ _ _ (Oper.mk _ (.alloc _) _ _ _ _ :: _) _ _; refine BigFrame.wpList_want rfl (fun K hK => ?_); refine o_alloc (z := ?_) rfl ?_ H rfl (fun w3 b2 he H2 => hK _ _ ?_); rotate_left 1; (focus (intro _; simp; with_reducible exact rfl))) | (guard_target =~ wpList _ _ _ (Oper.mk _ (.box _ _) _ _ _ _ :: _) _ _; refine BigFrame.wpList_want rfl (fun K hK => ?_); refine o_box rfl H rfl (fun w3 b2 he H2 => hK _ _ ?_))); clear hK K he; clear H; (try clear w2); revert w3; intro w2 H; simp [Act.eval, Value.cells, setL, List.getD] at H; (first | (clear tk0; rename Nat => b1) | (clear tk1; rename Nat => b2) | (clear tk2; rename Nat => b3)))); simp only [Act.put, List.setIfInBounds_toArray, List.set_cons_succ, List.set_cons_zero])
  go_loopg [6] m (CutRel w A A2 b0 o0 b9 o9 b1 b2 b3 n m c c2 vs es id)
  case atStart => exact ⟨0, [], none, 0, Nat.zero_add _, rfl, by simp, H.grow_nil 45 3⟩
  case round =>
    clear H
    obtain ⟨j, l, Ag, cg, hk, rfl, hfl, H⟩ := hrel
    have HFL := Lib.hid hfl
    have hll : l.length ≤ m := by have hn := HN.out; have hm := HM.out; rw [hfl]; have := List.length_filter_le (fun v => v.id != id) (es.take j); have := List.length_take_le j es; have : (es.take j).length ≤ es.length := List.length_take_le' _ _; omega
    clear hfl
    by_cases hlt : j < m
    · obtain ⟨i, x, y, he⟩ := eg_at es (k := j) (by have hn := HN.out; have hm := HM.out; omega)
      obtain rfl := H.rdAddr m4 (eR_pos he)
      have hp1 := at_eid (A := some ⟨b9, o9, none⟩) (b := b9) (off := o9) he
      have hp2 := at_e (A := some ⟨b9, o9, none⟩) (b := b9) (off := o9) he
      obtain ⟨v1, hv1⟩ : ∃ v, (i == id) = v := ⟨_, rfl⟩
      have hv2 : (i != id) = !v1 := by rw [bne, hv1]
      have hstep : (es.take (j + 1)).filter (fun v => v.id != id) = (es.take j).filter (fun v => v.id != id) ++ if v1 then [] else [⟨i, x, y⟩] := by
        rw [List.take_add_one, he, List.filter_append]
        cases v1 <;> simp_all
      have HST := Lib.hid hstep
      have HK := Lib.hid hk
      clear he hstep hk
      cases v1
      · simp only [Bool.not_false] at hv2
        have tk0 : True := trivial
        go_wp2_with (first
          | (guard_target =~ Code.wp _ (Code.region 6 _ true) _ _ _; refine region_treeC 6 1 (G := True) (.q 0 (.q 1 (.q 2 (.q 3 (.q 4 (.q 5 (.q 6 (.e 7 (.e 8 (.q 9 (.e 10 .nil))))))))))) (by kernel_rfl) (by intro c a d v w h; cases d <;> exact h) (by kernel_rfl) H ⟨trivial⟩ (fun _ w3 H2 => ?_); (clear H; (try clear w2); revert w3; intro w2 H); simp only [List.drop_succ_cons, List.drop_zero])
          | (guard_target =~ wpList _ _ _ (_ :: _) _ _; (guard_target =~ wpList _ _ _ (Oper.mk _ (.load _ _) _ _ _ _ :: _) _ _; refine BigFrame.wpList_want rfl (fun K hK => ?_); (first | (refine o_load (v := ?_) (r := ?_) rfl rfl H ?_ ?_ ?_ (hK _ _ ?_); rotate_left 2; (with_reducible assumption); (repeat first | exact .head _ | apply List.Mem.tail); (focus (intro _; simp; done))) | (refine o_loadC (v := ?_) (row := ?_) rfl rfl H ?_ ?_ ?_ (hK _ _ ?_); rotate_left 2; (repeat first | exact .head _ | apply List.Mem.tail); (exact rfl); (focus (intro _; simp; done)))); clear hK K); simp only [Act.put, List.setIfInBounds_toArray, List.set_cons_succ, List.set_cons_zero])
          | (guard_target =~ wpTreeC _ _ _ _ _ _ _; first | (guard_target =~ wpTreeC _ _ _ (Tr.e _ Tr.nil) _ _ _; refine treeC_last (by kernel_rfl) H rfl rfl (fun w3 H2 K hK => ?_); clear H; (try clear w2); (revert w3; intro w2 H); simp only [List.getElem_toArray, List.getElem_cons_succ, List.getElem_cons_zero]; (guard_target =~ Oper.wp _ (Oper.mk _ (.store _ _ _) _ _ _ _) _ _ _ _; refine o_store (l' := ?_) (row := ?_) rfl rfl H rfl ?_ ?_ ?_ ?_ (fun w3 H2 => hK _ _ ?_); rotate_left 2; (exact r2); (focus (intro _; simp [Act.eval, Value.cells]; done)); (focus (simp [Act.eval, Value.cells]; done)); (exact rfl); clear hK K; clear H; (try clear w2); revert w3; intro w2 H; simp [Act.eval, Value.cells, setL, List.getD] at H); simp only [Act.put, List.setIfInBounds_toArray, List.set_cons_succ, List.set_cons_zero]) | (guard_target =~ wpTreeC _ _ _ (Tr.q _ _) _ _ _; first | (refine treeC_quiet ⟨_, H, by repeat first | exact .here | apply Suf.there⟩ rfl rfl rfl (fun K hK => ?_); simp only [List.getElem_toArray, List.getElem_cons_succ, List.getElem_cons_zero]; first | (guard_target =~ Oper.quiet _ (Oper.mk _ (.load _ _) _ _ _ _) _ _ _; (first | (refine q_loadC (v := ?_) (row := ?_) rfl rfl ?_ ?_ ?_ (hK _ ?_); rotate_left 2; (repeat first | exact .head _ | apply List.Mem.tail); (exact rfl); (focus (intro _; simp; done))) | (refine q_loadN (cs := ?_) (r := ?_) rfl rfl ?_ ?_ ?_ ?_ (hK _ ?_); rotate_left 2; (with_reducible assumption); (repeat first | exact .head _ | apply List.Mem.tail); (focus (intro _; simp; done)); (focus (intro _; simp; done)))); clear hK K; simp only [Act.put, List.setIfInBounds_toArray, List.set_cons_succ, List.set_cons_zero]) | (go_big_quiet_op; (try refine ⟨_, fun _ _ => rfl, ?_⟩); refine hK _ ?_; clear hK K)) | (refine treeC_call (v := ?_) ⟨_, H, by repeat first | exact .here | apply Suf.there⟩ rfl rfl (fun w3 H K hK => ?_) ?_; rotate_left 1; (focus (simp only [List.getElem_toArray, List.getElem_cons_succ, List.getElem_cons_zero]; go_big_op; first | skip)); simp only [List.getElem_toArray, List.getElem_cons_succ, List.getElem_cons_zero, Act.put, List.setIfInBounds_toArray, List.set_cons_succ, List.set_cons_zero]) | (refine treeC_skip ⟨_, H, by repeat first | exact .here | apply Suf.there⟩ rfl rfl ?_; simp only [List.getElem_toArray, List.getElem_cons_succ, List.getElem_cons_zero, Act.put, List.setIfInBounds_toArray, List.set_cons_succ, List.set_cons_zero])) | (guard_target =~ wpTreeC _ _ _ (Tr.both _ _) _ _ _; refine treeC_both ?_ ?_) | (guard_target =~ wpTreeC _ _ _ (Tr.e _ _) _ _ _; first | (refine treeC_one H rfl rfl (fun w3 H2 K hK => ?_); clear H; (try clear w2); (revert w3; intro w2 H); simp only [List.getElem_toArray, List.getElem_cons_succ, List.getElem_cons_zero]; first | ((first | (guard_target =~ Oper.wp _ (Oper.mk _ (.call { callee := .builtin .append, args := _, argTypes := _ }) _ _ _ _) _ _ _ _; refine o_append (row := ?_) (n := ?_) (xs := ?_) (l' := ?_) infoEg rfl rfl rfl H ?_ rfl ?_ ?_ (by kernel_rfl) rfl (by decide) ?_ ?_ ?_ (fun v2 w3 H2 hn => hK _ _ ⟨_, H2, ?_⟩ ?_); rotate_left 4; (repeat first | exact .head _ | apply List.Mem.tail); (focus (simp; done)); (focus (intro _; (exact r1))); exact rfl; exact (by unfold maxLen; omega); exact (by omega); (guard_target =~ Suf _ _; repeat first | exact .here | apply Suf.there); clear hK K hn; clear H; (try clear w2); revert w3; intro w2 H; simp only [List.take_succ_cons, List.take_zero, Nat.one_mul] at H; (obtain ⟨A7, c7, rfl⟩ := H.growForm (v := v2) (by repeat first | exact .head _ | apply List.Mem.tail))) | ((guard_target =~ Oper.wp _ (Oper.mk _ (.buildSlice _ _ _) _ _ _ _) _ _ _ _; refine o_buildSlice (C := ?_) (E := ?_) rfl rfl H ?_ rfl (fun w3 b2 he H2 => hK _ _ ⟨_, H2, ?_⟩ ?_); rotate_left 2; (focus (intro _; simp [go_sem, Instr.buildSlice]; with_reducible exact rfl))); (guard_target =~ Suf _ _; repeat first | exact .here | apply Suf.there); clear hK K he; clear H; (try clear w2); revert w3; intro w2 H; simp [Act.eval, Value.cells, setL, List.getD] at H; (clear tk0; rename Nat => b5))); simp only [Act.put, List.setIfInBounds_toArray, List.set_cons_succ, List.set_cons_zero]) | (go_big_op; (first | fail))) | (refine treeC_one_skip (fun w3 hx => ⟨_, H.ext hx, by repeat first | exact .here | apply Suf.there⟩) rfl rfl (fun w3 hx => ?_); replace H := H.ext hx; clear hx; (try clear w2); revert w3; intro w2 H; simp only [List.getElem_toArray, List.getElem_cons_succ, List.getElem_cons_zero, Act.put, List.setIfInBounds_toArray, List.set_cons_succ, List.set_cons_zero])) | (guard_target =~ wpTreeC _ _ _ Tr.nil _ _ _; refine treeC_nil H (fun w3 H2 => ?_); clear H; (try clear w2); revert w3; intro w2 H)))
        go_roundg (gk - 1)
        case rel =>
          refine ⟨j + 1, l ++ [⟨i, x, y⟩], A7, c7, by have := HK.out; omega, by congr 1, by rw [HST.out, HFL.out]; rfl, ?_⟩
          rw [eR_app, List.length_append]
          exact H.tail
        case measure => have := HK.out; omega
      · simp only [Bool.not_true] at hv2
        have tk0 : True := trivial
        go_wp2_with (guard_target =~ wpList _ _ _ (_ :: _) _ _; (guard_target =~ wpList _ _ _ (Oper.mk _ (.load _ _) _ _ _ _ :: _) _ _; refine BigFrame.wpList_want rfl (fun K hK => ?_); (first | (refine o_load (v := ?_) (r := ?_) rfl rfl H ?_ ?_ ?_ (hK _ _ ?_); rotate_left 2; (with_reducible assumption); (repeat first | exact .head _ | apply List.Mem.tail); (focus (intro _; simp; done))) | (refine o_loadC (v := ?_) (row := ?_) rfl rfl H ?_ ?_ ?_ (hK _ _ ?_); rotate_left 2; (repeat first | exact .head _ | apply List.Mem.tail); (exact rfl); (focus (intro _; simp; done)))); clear hK K); simp only [Act.put, List.setIfInBounds_toArray, List.set_cons_succ, List.set_cons_zero])
        go_roundg (gk - 1)
        case rel => exact ⟨j + 1, l, Ag, cg, by have := HK.out; omega, by congr 1, by rw [HST.out, HFL.out]; simp, H⟩
        case measure => have := HK.out; omega
    · obtain rfl : gk = 0 := by omega
      obtain rfl : j = m := by omega
      have hfin : es.filter (fun v => v.id != id) = l := by rw [HFL.out, HM.out, List.take_length]
      have HF := Lib.hid hfin
      clear hfin
      obtain ⟨A8, b8, c8, hv, hc1, hc2, H, hB⟩ := H.growRd
      obtain ⟨rfl, rfl⟩ : Ag = A8 ∧ cg = c8 := by injection hv with h1 h2 h3; exact ⟨h1, h3⟩
      have fb : 0 < (eR l).length → ¬ (fun _ : Nat => False) b8 := fun h hf => hf
      have fn : 0 < (vR vs).length → ¬ (fun _ : Nat => False) b0 := fun h hf => hf
      have hcp := fun F w h1 h2 => copied_any vs l n l.length A Ag c cg F w HN.out rfl h1 h2 (by omega) (by omega)
      clear hv
      have tk0 : True := trivial
      go_wp2_with (first
        | (go_at_call 64; (with_reducible refine (hcp (FW (fun _ => False) _) _ (by exact H.giveRd m5 fn) (by exact H.giveRd m0 fb)).mono ?_); rintro e w3 ⟨v1, v2, rfl, H2⟩; replace H := H.join H2 rfl; clear H2; simp only [List.cons_append, List.nil_append] at H; obtain ⟨A5, c5, rfl⟩ := H.growForm m0; obtain ⟨A6, c6, rfl⟩ := H.growForm m1; dsimp only)
        | (guard_target =~ wpList _ _ _ (_ :: _) _ _; (first | (guard_target =~ wpList _ _ _ (Oper.mk _ (.load _ _) _ _ _ _ :: _) _ _; refine BigFrame.wpList_want rfl (fun K hK => ?_); (first | (refine o_loadC (v := ?_) (row := ?_) rfl rfl H ?_ ?_ ?_ (hK _ _ ?_); rotate_left 2; (repeat first | exact .head _ | apply List.Mem.tail); (exact rfl); (focus (intro _; simp; done))) | (refine o_loadNC (row := ?_) rfl rfl H ?_ ?_ ?_ (hK _ _ ?_); rotate_left 1; (repeat first | exact .head _ | apply List.Mem.tail); (focus (intro _; simp; done)); (focus (intro _; simp; done)))); clear hK K) | (guard_target =~ wpList _ _ _ (Oper.mk _ (.store _ _ _) _ _ _ _ :: _) _ _; refine BigFrame.wpList_want rfl (fun K hK => ?_); refine o_store (l' := ?_) (row := ?_) rfl rfl H rfl ?_ ?_ ?_ ?_ (fun w3 H2 => hK _ _ ?_); rotate_left 2; (exact r4); (focus (intro _; simp [Act.eval, Value.cells]; done)); (focus (simp [Act.eval, Value.cells]; done)); (exact rfl); clear hK K; clear H; (try clear w2); revert w3; intro w2 H; simp [Act.eval, Value.cells, setL, List.getD] at H)); simp only [Act.put, List.setIfInBounds_toArray, List.set_cons_succ, List.set_cons_zero]))
      have hr := H.loadVarN (P := Try.prog) (ty := 25) (b := b2) m4 (by simp) (by simp)
      refine bodyPost_ret (v := .agg #[.slice A5 n c5, .slice A6 l.length c6]) (by simp [results, Try.results42, asAddr, hr]) rfl ?_
      rw [HF.out]
      exact ⟨_, _, rfl, H.sub (.cons_cons _ (.cons_cons _ (List.nil_sublist _)))⟩
/-- A plan that is answered: what may be read of it. -/
def RetPl (F : Nat → Prop) (w : World) (n m : Nat) (vs : List Vt) (es : List Eg) (e : Ending) (w' : World) : Prop :=
  ∃ A A2 c c2, e = .returned (.agg #[.slice A n c, .slice A2 m c2]) ∧ Below w.heap.size w w' ∧ Sl F w' A (vR vs) ∧ Sl F w' A2 (eR es) ∧ m ≤ c2 ∧ c2 ≤ maxLen
theorem retPl_of {F : Nat → Prop} {w : World} (hF : ∀ k, F k → k < w.heap.size) {n m : Nat} {vs : List Vt} {es : List Eg} {e : Ending} {w' : World} (h : RetG w n m vs es e w') : RetPl F w n m vs es e w' := by
  obtain ⟨v1, v2, rfl, H⟩ := h
  obtain ⟨A, c, rfl, _, _, s1⟩ := H.giveGrow m0 hF
  obtain ⟨A2, c2, rfl, h1, h2, s2⟩ := H.giveGrow m1 hF
  exact ⟨A, A2, c, c2, rfl, H.below, s1, s2, h1, h2⟩
end Go.Proofs.Ytbdmfmdkcjfjdaa
