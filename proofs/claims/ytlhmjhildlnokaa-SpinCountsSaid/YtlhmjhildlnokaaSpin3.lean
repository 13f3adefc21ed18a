/-
  The walk of spin.turn: the wheel.
-/
import Derived.Test.YtlhmjhildlnokaaSpin6
namespace Go.Proofs.Ytlhmjhildlnokaa
set_option linter.unusedVariables false
set_option linter.unusedSimpArgs false
open Go.RowKit Go.Sort Go.Shelf

/-- One of the lists to the front; and back. -/
theorem tu_pull {B : Nat} {w0 w : World} {x0 x1 x2 x3 x4 x5 x6 x7 x8 : Res} {L1 L2 : List OutE} {o : OutE} (H : Own B w0 w (x0 :: x1 :: x2 :: x3 :: x4 :: x5 :: x6 :: x7 :: x8 :: (L1 ++ o :: L2).map oB)) :
    Own B w0 w (oB o :: x0 :: x1 :: x2 :: x3 :: x4 :: x5 :: x6 :: x7 :: x8 :: (L1 ++ L2).map oB) := by
  refine H.perm ?_
  have := perm_pull (x := oB o) [x0, x1, x2, x3, x4, x5, x6, x7, x8] (L1.map oB) (L2.map oB) []
  simpa using this
theorem tu_back {B : Nat} {w0 w : World} {x0 x1 x2 x3 x4 x5 x6 x7 x8 : Res} {L1 L2 : List OutE} {o : OutE} (H : Own B w0 w (oB o :: x0 :: x1 :: x2 :: x3 :: x4 :: x5 :: x6 :: x7 :: x8 :: (L1 ++ L2).map oB)) :
    Own B w0 w (x0 :: x1 :: x2 :: x3 :: x4 :: x5 :: x6 :: x7 :: x8 :: (L1 ++ o :: L2).map oB) := by
  refine H.perm ?_
  have := (perm_pull (x := oB o) [x0, x1, x2, x3, x4, x5, x6, x7, x8] (L1.map oB) (L2.map oB) []).symm
  simpa using this
def TuRel (vs : List Vt) (es : List Eg) (B : Nat) (w0 : World) (b3 k1 k2 k3 k4 r : Nat) (ent : List (Int × Value)) (x5 x6 x7 x8 : Res) (k : Nat) (wr : World) : Prop :=
  ∃ os left cur nx, OutW vs es os left nx ∧ left.length = k ∧ os.map oE = ent ∧
    Own B w0 wr (.cells b3 [.map (some k1), .map (some k2), .map (some k3), .map (some k4)] :: mNxt k4 nx :: iOut k3 r ent left cur :: mFrom k2 (frM es (halves es)) :: mVat k1 (vtM vs) :: x5 :: x6 :: x7 :: x8 :: os.map oB)
structure TuMore (vs : List Vt) (es : List Eg) (os : List OutE) (left left2 : List (Int × Value)) (nx : Hf → Option Hf) (L1 : List OutE) (v : Int) (s : Value) (L : List Hf) (L2 : List OutE) : Prop where
  eq : os = L1 ++ ⟨v, s, L⟩ :: L2
  perm : left.Perm ((v, s) :: left2)
  len : left.length = left2.length + 1
  ne : L ≠ []
  at_ : L.Perm (outU es v)
theorem tu_pos {vs : List Vt} {es : List Eg} {os : List OutE} {left left2 : List (Int × Value)} {nx : Hf → Option Hf} {L1 L2 : List OutE} {v : Int} {s : Value} {L : List Hf} (h : TuMore vs es os left left2 nx L1 v s L L2) : 0 < L.length := by
  have := h.ne
  rcases L with _ | ⟨a, L⟩
  · exact absurd rfl this
  · simp
theorem tu_len {vs : List Vt} {es : List Eg} {L : List Hf} {v : Int} (H : RightP vs es) (h : L.Perm (outU es v)) : L.length = (outZ vs es v).length := by
  rw [h.length_eq, (out_spec H v).2.length_eq]
theorem tu_few {vs : List Vt} {es : List Eg} {L : List Hf} {v : Int} (H : RightP vs es) (h : L.Perm (outU es v)) : L.length ≤ 2048 := by
  rw [h.length_eq]
  have : (outU es v).length ≤ (halves es).length := List.length_filter_le _ _
  rw [halves_len] at this
  have := H.few.2
  omega
theorem tu_more {vs : List Vt} {es : List Eg} {os : List OutE} {left left2 : List (Int × Value)} {nx : Hf → Option Hf} {k2 : Int} {q2 : Value} {B : Nat} {w0 w : World} {x0 x1 x2 x3 x4 x5 x6 x7 x8 : Res} (hW : OutW vs es os left nx) (hp : left.Perm ((k2, q2) :: left2))
    (H : Own B w0 w (x0 :: x1 :: x2 :: x3 :: x4 :: x5 :: x6 :: x7 :: x8 :: os.map oB)) : ∃ L1 v s L L2, k2 = v ∧ q2 = s ∧ TuMore vs es os left left2 nx L1 v s L L2 ∧ Own B w0 w (.grow 36 2 s L.length (hR L) :: x0 :: x1 :: x2 :: x3 :: x4 :: x5 :: x6 :: x7 :: x8 :: (L1 ++ L2).map oB) := by
  obtain ⟨L1, o, L2, rfl, rfl, rfl⟩ := outW_pick hW hp
  obtain ⟨h1, h2, _⟩ := hW.each o (by simp)
  exact ⟨L1, o.v, o.s, o.l, L2, rfl, rfl, ⟨rfl, hp, by have := hp.length_eq; simpa using this, h1, h2⟩, tu_pull H⟩
theorem hR_at {l : List Hf} {j : Nat} {h : Hf} (hj : l[j]? = some h) : ((hR l).drop (j * 2)).take 2 = [.int .i64 h.e, .bool h.b] := by
  unfold hR
  induction l generalizing j with
  | nil => simp at hj
  | cons a l ih =>
    cases j with
    | zero => obtain rfl : a = h := by simpa using hj
              simp [h2]
    | succ j =>
      have := ih (j := j) (by simpa using hj)
      rw [show (j + 1) * 2 = 2 + j * 2 by omega, List.flatMap_cons, ← List.drop_drop]
      simpa [h2] using this
theorem sort_pt {vs : List Vt} {es : List Eg} {v : Int} (H : RightP vs es) : rpt vs v = ⟨((vtM vs v).getD zVt).p.x, ((vtM vs v).getD zVt).p.y⟩ := by
  rw [← vt_rpt (H.verts.two.imp fun h => h.1)]
theorem fld_at (a b c : Value) (w : World) : (Instr.field 49 (.agg #[a, b, c]) 1).run Try.prog w = .ok (.agg #[b, c]) w := by kernel_rfl
theorem o_fld {o : Oper} {a : Act} {w : World} {x : Operand} {C : Act → World → Prop} {Q : Exit → Act → World → Prop} {p q r : Value} (ho : o.op = .field 49 x 1) (hx : a.eval x = .agg #[p, q, r]) (hk : C (a.put o.dst (.agg #[q, r])) w) : o.wp Try.prog a w C Q := by
  unfold Oper.wp execOp
  simp only [ho, hx, Sem.run_bind, fld_at]
  exact hk
theorem infoHf : (Try.prog.info? 36).map (fun i => (i.zero, i.size, i.bytes)) = some (some (.agg #[.int .i64 0, .bool false]), 2, 16) := by kernel_rfl
set_option maxRecDepth 100000 in
set_option maxHeartbeats 16000000 in
theorem sturn_any (vs : List Vt) (es : List Eg) (A A2 : Option Addr) (c c2 : Nat) (F : Nat → Prop) (w : World) (hR : RightP vs es) (hs : Sl F w A (vR vs)) (hs2 : Sl F w A2 (eR es)) :
    Calls Try.prog 47 #[.agg #[.slice A vs.length c, .slice A2 es.length c2]] w fun e w' => ∃ k1 k2 k3 k4 os, e = .returned (.agg #[.map (some k1), .map (some k2), .map (some k3), .map (some k4)]) ∧ OutS vs es os ∧
      Own w.heap.size w w' (mNxt k4 (nxM vs es) :: mOut k3 (os.map oE) :: mFrom k2 (frM es (halves es)) :: mVat k1 (vtM vs) :: os.map oB) := by
  obtain ⟨b0, o0, H1, f0⟩ := (Own.start w).addSl (hs.ro (by rfl))
  obtain ⟨b9, o9, H, f9⟩ := H1.addSl (hs2.ro (by rfl))
  clear hs hs2 H1 f0 f9
  have hl := hR.few.1
  have hl2 := hR.few.2
  have HR := Lib.hid hR
  clear hR
  go_enter Try.func47, Try.ntmps47
  have tk0 : True := trivial
  have tk1 : True := trivial
  have tk2 : True := trivial
  have tk3 : True := trivial
  have tk4 : True := trivial
  have tk5 : True := trivial
  have tk6 : True := trivial
  go_wp2_with (guard_target =~ wpList _ _ _ (_ :: _) _ _; (first | (guard_target =~ wpList _ _ _ (Oper.mk _ (.load _ _) _ _ _ _ :: _) _ _; refine BigFrame.wpList_want rfl (fun K hK => ?_); (refine o_loadC (v := ?_) (row := ?_) rfl rfl H ?_ ?_ ?_ (hK _ _ ?_); rotate_left 2; (repeat first | exact .head _ | apply List.Mem.tail); (exact rfl); (focus (intro _; simp; done))); clear hK K) | (guard_target =~ wpList _ _ _ (Oper.mk _ (.store _ _ _) _ _ _ _ :: _) _ _; refine BigFrame.wpList_want rfl (fun K hK => ?_); refine o_store (l' := ?_) (row := ?_) rfl rfl H rfl ?_ ?_ ?_ ?_ (fun w3 H2 => hK _ _ ?_); rotate_left 2; (exact r0); (focus (intro _; simp [Act.eval, Value.cells]; done)); (focus (simp [Act.eval, Value.cells]; done)); (exact rfl); clear hK K; clear H; (try clear w2); revert w3; intro w2 H; simp [Act.eval, Value.cells, setL, List.getD] at H) | ((first | (guard_target =~ wpList _ _ _ (Oper.mk _ (.alloc _) _ _ _ _ :: _) _ _; refine BigFrame.wpList_want rfl (fun K hK => ?_); refine o_alloc (z := ?_) rfl ?_ H rfl (fun w3 b2 he H2 => hK _ _ ?_); rotate_left 1; (focus (intro _; simp; with_reducible exact rfl))) | (guard_target =~ wpList _ _ _ (Oper.mk _ (.box _ _) _ _ _ _ :: _) _ _; refine BigFrame.wpList_want rfl (fun K hK => ?_); refine o_box rfl H rfl (fun w3 b2 he H2 => hK _ _ ?_))); clear hK K he; clear H; (try clear w2); revert w3; intro w2 H; simp [Act.eval, Value.cells, setL, List.getD] at H; (first | (clear tk0; rename Nat => b1) | (clear tk1; rename Nat => b2) | (clear tk6; rename Nat => b3))) | (guard_target =~ wpList _ _ _ (Oper.mk _ (.makeMap _ _) _ _ _ _ :: _) _ _; refine BigFrame.wpList_want rfl (fun K hK => ?_); refine o_vatMake rfl H (fun w3 b2 he H2 => hK _ _ ?_); clear hK K he; clear H; (try clear w2); revert w3; intro w2 H; (clear tk2; rename Nat => ka)) | (guard_target =~ wpList _ _ _ (Oper.mk _ (.makeMap _ _) _ _ _ _ :: _) _ _; refine BigFrame.wpList_want rfl (fun K hK => ?_); refine o_fromMake rfl H (fun w3 b2 he H2 => hK _ _ ?_); clear hK K he; clear H; (try clear w2); revert w3; intro w2 H; (clear tk3; rename Nat => kb)) | (guard_target =~ wpList _ _ _ (Oper.mk _ (.makeMap _ _) _ _ _ _ :: _) _ _; refine BigFrame.wpList_want rfl (fun K hK => ?_); refine o_outMake rfl H (fun w3 b2 he H2 => hK _ _ ?_); clear hK K he; clear H; (try clear w2); revert w3; intro w2 H; (clear tk4; rename Nat => kc)) | (guard_target =~ wpList _ _ _ (Oper.mk _ (.makeMap _ _) _ _ _ _ :: _) _ _; refine BigFrame.wpList_want rfl (fun K hK => ?_); refine o_nxtMake rfl H (fun w3 b2 he H2 => hK _ _ ?_); clear hK K he; clear H; (try clear w2); revert w3; intro w2 H; (clear tk5; rename Nat => kd))); simp only [Act.put, List.setIfInBounds_toArray, List.set_cons_succ, List.set_cons_zero])
  go_loopg [24] vs.length (fun k i wr => k ≤ vs.length ∧ i = .int .i64 ((vs.length - k : Nat) : Int) ∧ Own w.heap.size w wr [.cells b3 [.map (some ka), .map (some kb), .map (some kc), .map (some kd)], mNxt kd (fun _ => none), mOut kc [], mFrom kb (fun _ => none), mVat ka (vtM (vs.take (vs.length - k))), .cells b2 [.map none, .map none, .map none, .map none], .cells b1 [.slice A vs.length c, .slice A2 es.length c2], .rd A2 b9 o9 (eR es), .rd A b0 o0 (vR vs)])
  case atStart => exact ⟨Nat.le_refl _, by simp, by rw [Nat.sub_self]; exact H⟩
  case round =>
    clear H
    obtain ⟨hk, rfl, H⟩ := hrel
    by_cases hlt : 0 < gk
    · obtain ⟨j, hj⟩ : ∃ j, vs.length - gk = j := ⟨_, rfl⟩
      have hjl : j < vs.length := by omega
      rw [hj] at H ⊢
      obtain ⟨i, x, y, he⟩ := vt_at vs hjl
      obtain rfl := H.rdAddr m8 (vR_pos he)
      have hp := at_v (A := some ⟨b0, o0, none⟩) (b := b0) (off := o0) he
      have hst := vtM_step he
      generalize vtM (vs.take j) = mm at H hst
      have HA := Lib.hid hst
      have HJ := Lib.hid hj
      clear he hj hst
      have tk0 : True := trivial
      go_wp2_with (guard_target =~ wpList _ _ _ (_ :: _) _ _; (first | (guard_target =~ wpList _ _ _ (Oper.mk _ (.load _ _) _ _ _ _ :: _) _ _; refine BigFrame.wpList_want rfl (fun K hK => ?_); (first | (refine o_loadC (v := ?_) (row := ?_) rfl rfl H ?_ ?_ ?_ (hK _ _ ?_); rotate_left 2; (repeat first | exact .head _ | apply List.Mem.tail); (exact rfl); (focus (intro _; simp; done))) | (refine o_loadN (cs := ?_) (r := ?_) rfl rfl H ?_ ?_ ?_ ?_ (hK _ _ ?_); rotate_left 2; (with_reducible assumption); (repeat first | exact .head _ | apply List.Mem.tail); (focus (intro _; simp; done)); (focus (intro _; simp; done))) | (refine o_loadNC (row := ?_) rfl rfl H ?_ ?_ ?_ (hK _ _ ?_); rotate_left 1; (repeat first | exact .head _ | apply List.Mem.tail); (focus (intro _; simp; done)); (focus (intro _; simp; done)))); clear hK K) | (guard_target =~ wpList _ _ _ (Oper.mk _ (.store _ _ _) _ _ _ _ :: _) _ _; refine BigFrame.wpList_want rfl (fun K hK => ?_); refine o_store (l' := ?_) (row := ?_) rfl rfl H rfl ?_ ?_ ?_ ?_ (fun w3 H2 => hK _ _ ?_); rotate_left 2; (exact r0); (focus (intro _; simp [Act.eval, Value.cells]; done)); (focus (simp [Act.eval, Value.cells]; done)); (exact rfl); clear hK K; clear H; (try clear w2); revert w3; intro w2 H; simp [Act.eval, Value.cells, setL, List.getD] at H) | ((guard_target =~ wpList _ _ _ (Oper.mk _ (.alloc _) _ _ _ _ :: _) _ _; refine BigFrame.wpList_want rfl (fun K hK => ?_); refine o_alloc (z := ?_) rfl ?_ H rfl (fun w3 b2 he H2 => hK _ _ ?_); rotate_left 1; (focus (intro _; simp; with_reducible exact rfl))); clear hK K he; clear H; (try clear w2); revert w3; intro w2 H; simp [Act.eval, Value.cells, setL, List.getD] at H; (clear tk0; rename Nat => b4)) | (guard_target =~ wpList _ _ _ (Oper.mk _ (.mapUpdate _ _ _ _) _ _ _ _ :: _) _ _; refine BigFrame.wpList_want rfl (fun K hK => ?_); refine o_vatSet (l0 := ?_) (m := ?_) rfl rfl rfl rfl H ?_ (fun w3 H2 => hK _ _ ?_); rotate_left 2; (focus (intro _; (exact r5))); clear hK K; clear H; (try clear w2); revert w3; intro w2 H)); simp only [Act.put, List.setIfInBounds_toArray, List.set_cons_succ, List.set_cons_zero])
      go_roundg (gk - 1)
      case rel => exact ⟨by omega, by have := HJ.out; congr 1; omega, by rw [show vs.length - (gk - 1) = j + 1 by have := HJ.out; omega, HA.out]; exact H.tail⟩
      case measure => omega
    · obtain rfl : gk = 0 := by omega
      rw [Nat.sub_zero, List.take_length] at H
      generalize hmv : vtM vs = mv at H
      have HMV := Lib.hid hmv
      clear hmv
      go_wp2_with (guard_target =~ wpList _ _ _ (_ :: _) _ _; (guard_target =~ wpList _ _ _ (Oper.mk _ (.load _ _) _ _ _ _ :: _) _ _; refine BigFrame.wpList_want rfl (fun K hK => ?_); (refine o_loadC (v := ?_) (row := ?_) rfl rfl H ?_ ?_ ?_ (hK _ _ ?_); rotate_left 2; (repeat first | exact .head _ | apply List.Mem.tail); (exact rfl); (focus (intro _; simp; done))); clear hK K); simp only [Act.put, List.setIfInBounds_toArray, List.set_cons_succ, List.set_cons_zero])
      go_loopg [37] es.length (fun k i wr => ∃ os, OutIs es (halves (es.take (es.length - k))) os ∧ k ≤ es.length ∧ i = .int .i64 ((es.length - k : Nat) : Int) ∧ Own w.heap.size w wr (.cells b3 [.map (some ka), .map (some kb), .map (some kc), .map (some kd)] :: mNxt kd (fun _ => none) :: mOut kc (os.map oE) :: mFrom kb (frM es (halves (es.take (es.length - k)))) :: mVat ka mv :: .cells b2 [.map none, .map none, .map none, .map none] :: .cells b1 [.slice A vs.length c, .slice A2 es.length c2] :: .rd A2 b9 o9 (eR es) :: .rd A b0 o0 (vR vs) :: os.map oB))
      case atStart => exact ⟨[], by rw [Nat.sub_self]; exact outIs_nil es, Nat.le_refl _, by simp, by rw [Nat.sub_self]; exact H⟩
      case round =>
        clear H
        obtain ⟨os, hO, hk, rfl, H⟩ := hrel
        by_cases hlt : 0 < gk
        · obtain ⟨j, hj⟩ : ∃ j, es.length - gk = j := ⟨_, rfl⟩
          have hjl : j < es.length := by omega
          rw [hj] at H hO ⊢
          obtain ⟨i, x, y, he⟩ := eg_at es hjl
          obtain rfl := H.rdAddr m7 (eR_pos he)
          have hp := at_e (A := some ⟨b9, o9, none⟩) (b := b9) (off := o9) he
          have hst := halves_step he
          have hfa := from_step HR.out he
          (try simp only at hst hfa)
          have ⟨gkA, hgA⟩ : ∃ g, g = gk := ⟨_, rfl⟩
          have hdl : (halves (es.take j)).length ≤ 2046 := by rw [halves_len, List.length_take]; omega
          generalize halves (es.take j) = D0 at H hO hst hdl
          have HA := Lib.hid hst
          have HF := Lib.hid hfa
          have HJ := Lib.hid hj
          have HD := Lib.hid hdl
          have HO0 := Lib.hid hO
          clear he hj hst hfa hdl hO
          have tk0 : True := trivial
          have tk1 : True := trivial
          go_wp2_with (guard_target =~ wpList _ _ _ (_ :: _) _ _; (first | (guard_target =~ wpList _ _ _ (Oper.mk _ (.load _ _) _ _ _ _ :: _) _ _; refine BigFrame.wpList_want rfl (fun K hK => ?_); (refine o_loadN (cs := ?_) (r := ?_) rfl rfl H ?_ ?_ ?_ ?_ (hK _ _ ?_); rotate_left 2; (with_reducible assumption); (repeat first | exact .head _ | apply List.Mem.tail); (focus (intro _; simp; done)); (focus (intro _; simp; done))); clear hK K) | (guard_target =~ wpList _ _ _ (Oper.mk _ (.store _ _ _) _ _ _ _ :: _) _ _; refine BigFrame.wpList_want rfl (fun K hK => ?_); refine o_store (l' := ?_) (row := ?_) rfl rfl H rfl ?_ ?_ ?_ ?_ (fun w3 H2 => hK _ _ ?_); rotate_left 2; (exact r0); (focus (intro _; simp [Act.eval, Value.cells]; done)); (focus (simp [Act.eval, Value.cells]; done)); (exact rfl); clear hK K; clear H; (try clear w2); revert w3; intro w2 H; simp [Act.eval, Value.cells, setL, List.getD] at H) | ((first | (guard_target =~ wpList _ _ _ (Oper.mk _ (.alloc _) _ _ _ _ :: _) _ _; refine BigFrame.wpList_want rfl (fun K hK => ?_); refine o_alloc (z := ?_) rfl ?_ H rfl (fun w3 b2 he H2 => hK _ _ ?_); rotate_left 1; (focus (intro _; simp; with_reducible exact rfl))) | (guard_target =~ wpList _ _ _ (Oper.mk _ (.buildSlice _ _ _) _ _ _ _ :: _) _ _; refine BigFrame.wpList_want rfl (fun K hK => ?_); refine o_buildSlice (C := ?_) (E := ?_) rfl rfl H ?_ rfl (fun w3 b2 he H2 => hK _ _ ?_); rotate_left 2; (focus (intro _; simp [go_sem, Instr.buildSlice]; with_reducible exact rfl)))); clear hK K he; clear H; (try clear w2); revert w3; intro w2 H; simp [Act.eval, Value.cells, setL, List.getD] at H; (first | (clear tk0; rename Nat => b4) | (clear tk1; rename Nat => b5)))); simp only [Act.put, List.setIfInBounds_toArray, List.set_cons_succ, List.set_cons_zero])
          go_loopg [43] 2 (fun k u wr => ∃ os D, D = D0 ++ ([⟨i, false⟩, ⟨i, true⟩] : List Hf).take (2 - k) ∧ OutIs es D os ∧ k ≤ 2 ∧ u = .int .i64 ((2 - k : Nat) : Int) ∧ Own w.heap.size w wr (.cells b5 [.bool false, .bool true] :: .cells b4 [.int .i64 i, .int .i64 x, .int .i64 y] :: .cells b3 [.map (some ka), .map (some kb), .map (some kc), .map (some kd)] :: mNxt kd (fun _ => none) :: mOut kc (os.map oE) :: mFrom kb (frM es D) :: mVat ka mv :: .cells b2 [.map none, .map none, .map none, .map none] :: .cells b1 [.slice A vs.length c, .slice (some ⟨b9, o9, none⟩) es.length c2] :: .rd (some ⟨b9, o9, none⟩) b9 o9 (eR es) :: .rd A b0 o0 (vR vs) :: os.map oB))
          case atStart => exact ⟨os, D0, by simp, HO0.out, Nat.le_refl _, by simp, H⟩
          case round =>
            clear H
            clear HO0 os
            obtain ⟨os, D, hDe, hO, hk2, rfl, H⟩ := hrel
            have hDl : D.length ≤ 2048 := by
              have := HD.out
              rw [hDe, List.length_append, List.length_take]; simp only [List.length_cons, List.length_nil]; omega
            rcases (by omega : gk = 2 ∨ gk = 1 ∨ gk = 0) with rfl | rfl | rfl
            · obtain ⟨s, L, o2, HO, H⟩ := out_at (l := [.cells b5 [.bool false, .bool true], .cells b4 [.int .i64 i, .int .i64 x, .int .i64 y], .cells b3 [.map (some ka), .map (some kb), .map (some kc), .map (some kd)], mNxt kd (fun _ => none), mOut kc (os.map oE), mFrom kb (frM es D), mVat ka mv, .cells b2 [.map none, .map none, .map none, .map none], .cells b1 [.slice A vs.length c, .slice (some ⟨b9, o9, none⟩) es.length c2], .rd (some ⟨b9, o9, none⟩) b9 o9 (eR es), .rd A b0 o0 (vR vs)]) H hO x
              simp only [List.cons_append, List.nil_append] at H
              have hget := HO.get
              have hcut := HO.cut
              have hnl : L.length ≤ 2048 := Nat.le_trans HO.len hDl
              have hfr := frM_add es D ⟨i, false⟩
              rw [HF.out.1] at hfr
              generalize frM es D = mf at H hfr
              generalize os.map oE = om at H hget hcut
              have HC := Lib.hid hcut
              have HFR := Lib.hid hfr
              have HOO := Lib.hid HO
              have HL := Lib.hid (rfl : hR L = hR L)
              generalize hX : hR L = X at H
              generalize hNn : L.length = nl at H hnl
              have HX := Lib.hid hX
              have HN := Lib.hid hNn
              have HDE := Lib.hid hDe
              clear hcut hfr HO hX hNn hO hDl hDe
              have tk0 : True := trivial
              go_wp2_with (first
                | (guard_target =~ Code.wp _ (Code.region 17 _ true) _ _ _; replace H := H.swap; refine region_treeC 17 1 (G := True) (.q 0 (.q 1 (.q 2 (.q 3 (.q 4 (.q 5 (.q 6 (.q 7 (.q 8 (.q 9 (.q 10 (.q 11 (.q 12 (.q 13 (.e 14 (.e 15 (.e 16 .nil))))))))))))))))) (by kernel_rfl) (by intro c a d v w h; cases d <;> exact h) (by kernel_rfl) H ⟨trivial⟩ (fun _ w3 H2 => ?_); (clear H; (try clear w2); revert w3; intro w2 H); simp only [List.drop_succ_cons, List.drop_zero])
                | (guard_target =~ wpList _ _ _ (_ :: _) _ _; (first | (guard_target =~ wpList _ _ _ (Oper.mk _ (.load _ _) _ _ _ _ :: _) _ _; refine BigFrame.wpList_want rfl (fun K hK => ?_); (first | (refine o_loadC (v := ?_) (row := ?_) rfl rfl H ?_ ?_ ?_ (hK _ _ ?_); rotate_left 2; (repeat first | exact .head _ | apply List.Mem.tail); (exact rfl); (focus (intro _; simp [upd_same, Option.getD_some, hget]; done))) | (refine o_loadNC (row := ?_) rfl rfl H ?_ ?_ ?_ (hK _ _ ?_); rotate_left 1; (repeat first | exact .head _ | apply List.Mem.tail); (focus (intro _; simp [upd_same, Option.getD_some, hget]; done)); (focus (intro _; simp [upd_same, Option.getD_some, hget]; done)))); clear hK K) | (guard_target =~ wpList _ _ _ (Oper.mk _ (.store _ _ _) _ _ _ _ :: _) _ _; refine BigFrame.wpList_want rfl (fun K hK => ?_); refine o_store (l' := ?_) (row := ?_) rfl rfl H rfl ?_ ?_ ?_ ?_ (fun w3 H2 => hK _ _ ?_); rotate_left 2; (exact r0); (focus (intro _; (simp [Act.eval, Value.cells, List.getD, upd_same, Option.getD_some, hget]; done))); (focus (simp [Act.eval, Value.cells, List.getD, upd_same, Option.getD_some, hget]; done)); (exact rfl); clear hK K; clear H; (try clear w2); revert w3; intro w2 H; (try simp [Act.eval, List.getD, upd_same, Option.getD_some, hget] at H); (try simp [Value.cells, setL, upd_same, Option.getD_some, hget] at H)) | ((guard_target =~ wpList _ _ _ (Oper.mk _ (.alloc _) _ _ _ _ :: _) _ _; refine BigFrame.wpList_want rfl (fun K hK => ?_); refine o_alloc (z := ?_) rfl ?_ H rfl (fun w3 b2 he H2 => hK _ _ ?_); rotate_left 1; (focus (intro _; simp; with_reducible exact rfl))); clear hK K he; clear H; (try clear w2); revert w3; intro w2 H; (try simp [Act.eval, List.getD, upd_same, Option.getD_some, hget] at H); (try simp [Value.cells, setL, upd_same, Option.getD_some, hget] at H); (clear tk0; rename Nat => b6)) | (guard_target =~ wpList _ _ _ (Oper.mk _ (.mapUpdate _ _ _ _) _ _ _ _ :: _) _ _; refine BigFrame.wpList_want rfl (fun K hK => ?_); refine o_fromSet (l0 := ?_) (m := ?_) rfl rfl rfl rfl H ?_ (fun w3 H2 => hK _ _ ?_); rotate_left 2; (focus (intro _; (exact r7))); clear hK K; clear H; (try clear w2); revert w3; intro w2 H)); simp only [Act.put, List.setIfInBounds_toArray, List.set_cons_succ, List.set_cons_zero, upd_same, Option.getD_some, hget])
                | (guard_target =~ wpTreeC _ _ _ _ _ _ _; first | (guard_target =~ wpTreeC _ _ _ (Tr.e _ Tr.nil) _ _ _; refine treeC_last (by decide +kernel) H rfl rfl (fun w3 H2 K hK => ?_); clear H; (try clear w2); (revert w3; intro w2 H); simp only [List.getElem_toArray, List.getElem_cons_succ, List.getElem_cons_zero]; (guard_target =~ Oper.wp _ (Oper.mk _ (.mapUpdate _ _ _ _) _ _ _ _) _ _ _ _; refine o_outSet (l0 := ?_) (m := ?_) rfl rfl rfl rfl H ?_ (fun w3 H2 => hK _ _ ?_); rotate_left 2; (focus (intro _; (exact r7))); clear hK K; clear H; (try clear w2); revert w3; intro w2 H); simp only [Act.put, List.setIfInBounds_toArray, List.set_cons_succ, List.set_cons_zero, upd_same, Option.getD_some, hget]) | (guard_target =~ wpTreeC _ _ _ (Tr.q _ _) _ _ _; first | (refine treeC_quiet ⟨_, H, by repeat first | exact .here | apply Suf.there⟩ rfl rfl rfl (fun K hK => ?_); simp only [List.getElem_toArray, List.getElem_cons_succ, List.getElem_cons_zero]; first | (guard_target =~ Oper.quiet _ (Oper.mk _ (.lookup _ _ _ false) _ _ _ _) _ _ _; refine q_fromGet (m := ?_) rfl rfl rfl ?_ (hK _ ?_); rotate_left 1; (repeat first | exact .head _ | apply List.Mem.tail); clear hK K; simp only [Act.put, List.setIfInBounds_toArray, List.set_cons_succ, List.set_cons_zero, upd_same, Option.getD_some, hget]) | (guard_target =~ Oper.quiet _ (Oper.mk _ (.lookup _ _ _ true) _ _ _ _) _ _ _; refine q_fromOk (m := ?_) rfl rfl rfl ?_ (hK _ ?_); rotate_left 1; (repeat first | exact .head _ | apply List.Mem.tail); clear hK K; simp only [Act.put, List.setIfInBounds_toArray, List.set_cons_succ, List.set_cons_zero, upd_same, Option.getD_some, hget]) | (guard_target =~ Oper.quiet _ (Oper.mk _ (.lookup _ _ _ false) _ _ _ _) _ _ _; refine q_outGet (m := ?_) rfl rfl rfl ?_ (hK _ ?_); rotate_left 1; (repeat first | exact .head _ | apply List.Mem.tail); clear hK K; simp only [Act.put, List.setIfInBounds_toArray, List.set_cons_succ, List.set_cons_zero, upd_same, Option.getD_some, hget]) | (guard_target =~ Oper.quiet _ (Oper.mk _ (.lookup _ _ _ true) _ _ _ _) _ _ _; refine q_outOk (m := ?_) rfl rfl rfl ?_ (hK _ ?_); rotate_left 1; (repeat first | exact .head _ | apply List.Mem.tail); clear hK K; simp only [Act.put, List.setIfInBounds_toArray, List.set_cons_succ, List.set_cons_zero, upd_same, Option.getD_some, hget]) | (guard_target =~ Oper.quiet _ (Oper.mk _ (.load _ _) _ _ _ _) _ _ _; (first | (refine q_loadC (v := ?_) (row := ?_) rfl rfl ?_ ?_ ?_ (hK _ ?_); rotate_left 2; (repeat first | exact .head _ | apply List.Mem.tail); (exact rfl); (focus (intro _; simp [upd_same, Option.getD_some, hget]; done))) | (refine q_loadNC (row := ?_) rfl rfl ?_ ?_ ?_ (hK _ ?_); rotate_left 1; (repeat first | exact .head _ | apply List.Mem.tail); (focus (intro _; simp [upd_same, Option.getD_some, hget]; done)); (focus (intro _; simp [upd_same, Option.getD_some, hget]; done)))); clear hK K; simp only [Act.put, List.setIfInBounds_toArray, List.set_cons_succ, List.set_cons_zero, upd_same, Option.getD_some, hget]) | (go_big_quiet_op; (try refine ⟨_, fun _ _ => rfl, ?_⟩); refine hK _ ?_; clear hK K)) | (refine treeC_call (v := ?_) ⟨_, H, by repeat first | exact .here | apply Suf.there⟩ rfl rfl (fun w3 H K hK => ?_) ?_; rotate_left 1; (focus (simp only [List.getElem_toArray, List.getElem_cons_succ, List.getElem_cons_zero]; first | (go_big_op; first | exact hK _ (Ext.refl _)))); simp only [List.getElem_toArray, List.getElem_cons_succ, List.getElem_cons_zero, Act.put, List.setIfInBounds_toArray, List.set_cons_succ, List.set_cons_zero, upd_same, Option.getD_some, hget]) | (refine treeC_skip ⟨_, H, by repeat first | exact .here | apply Suf.there⟩ rfl rfl ?_; simp only [List.getElem_toArray, List.getElem_cons_succ, List.getElem_cons_zero, Act.put, List.setIfInBounds_toArray, List.set_cons_succ, List.set_cons_zero, upd_same, Option.getD_some, hget])) | (guard_target =~ wpTreeC _ _ _ (Tr.both _ _) _ _ _; refine treeC_both ?_ ?_) | (guard_target =~ wpTreeC _ _ _ (Tr.e _ _) _ _ _; first | (refine treeC_one H rfl rfl (fun w3 H2 K hK => ?_); clear H; (try clear w2); (revert w3; intro w2 H); simp only [List.getElem_toArray, List.getElem_cons_succ, List.getElem_cons_zero]; first | ((first | (guard_target =~ Oper.wp _ (Oper.mk _ (.call { callee := .builtin .append, args := _, argTypes := _ }) _ _ _ _) _ _ _ _; refine o_append (row := ?_) (n := ?_) (xs := ?_) (l' := ?_) infoHf rfl rfl rfl H ?_ rfl ?_ ?_ (by kernel_rfl) rfl (by decide) ?_ ?_ ?_ (fun v2 w3 H2 hn => hK _ _ ⟨_, H2, ?_⟩ ?_); rotate_left 4; (repeat first | exact .head _ | apply List.Mem.tail); (focus (simp; done)); (focus (intro _; (exact r1))); exact rfl; exact (by unfold maxLen; omega); exact (by omega); (guard_target =~ Suf _ _; repeat first | exact .here | apply Suf.there); clear hK K hn; clear H; (try clear w2); revert w3; intro w2 H; simp only [List.take_succ_cons, List.take_zero, Nat.one_mul] at H; (obtain ⟨A7, c7, rfl⟩ := H.growForm (v := v2) (by repeat first | exact .head _ | apply List.Mem.tail))) | ((guard_target =~ Oper.wp _ (Oper.mk _ (.buildSlice _ _ _) _ _ _ _) _ _ _ _; refine o_buildSlice (C := ?_) (E := ?_) rfl rfl H ?_ rfl (fun w3 b2 he H2 => hK _ _ ⟨_, H2, ?_⟩ ?_); rotate_left 2; (focus (intro _; simp [go_sem, Instr.buildSlice]; with_reducible exact rfl))); (guard_target =~ Suf _ _; repeat first | exact .here | apply Suf.there); clear hK K he; clear H; (try clear w2); revert w3; intro w2 H; (try simp [Act.eval, List.getD, upd_same, Option.getD_some, hget] at H); (try simp [Value.cells, setL, upd_same, Option.getD_some, hget] at H); (skip))); simp only [Act.put, List.setIfInBounds_toArray, List.set_cons_succ, List.set_cons_zero, upd_same, Option.getD_some, hget]) | (go_big_op; (first | fail))) | (refine treeC_one_skip (fun w3 hx => ⟨_, H.ext hx, by repeat first | exact .here | apply Suf.there⟩) rfl rfl (fun w3 hx => ?_); replace H := H.ext hx; clear hx; (try clear w2); revert w3; intro w2 H; simp only [List.getElem_toArray, List.getElem_cons_succ, List.getElem_cons_zero, Act.put, List.setIfInBounds_toArray, List.set_cons_succ, List.set_cons_zero, upd_same, Option.getD_some, hget])) | (guard_target =~ wpTreeC _ _ _ Tr.nil _ _ _; refine treeC_nil H (fun w3 H2 => ?_); clear H; (try clear w2); revert w3; intro w2 H)))
              go_roundg 1
              case rel =>
                rw [HC.out] at H
                have H4 := out_back (v := x) (L := L ++ [⟨i, false⟩]) (l := [_, _, _, _, _, _, _, _, _, _, _]) H.tail.swap.tail (by rw [← HN.out]; simp) (by rw [hR_add, ← HX.out])
                exact ⟨_, D ++ [⟨i, false⟩], by rw [HDE.out]; simp, HOO.out.next ⟨i, false⟩ _ HF.out.1, by omega, by simp, by rw [HFR.out]; exact H4⟩
              case measure => omega
            · obtain ⟨s, L, o2, HO, H⟩ := out_at (l := [.cells b5 [.bool false, .bool true], .cells b4 [.int .i64 i, .int .i64 x, .int .i64 y], .cells b3 [.map (some ka), .map (some kb), .map (some kc), .map (some kd)], mNxt kd (fun _ => none), mOut kc (os.map oE), mFrom kb (frM es D), mVat ka mv, .cells b2 [.map none, .map none, .map none, .map none], .cells b1 [.slice A vs.length c, .slice (some ⟨b9, o9, none⟩) es.length c2], .rd (some ⟨b9, o9, none⟩) b9 o9 (eR es), .rd A b0 o0 (vR vs)]) H hO y
              simp only [List.cons_append, List.nil_append] at H
              have hget := HO.get
              have hcut := HO.cut
              have hnl : L.length ≤ 2048 := Nat.le_trans HO.len hDl
              have hfr := frM_add es D ⟨i, true⟩
              rw [HF.out.2] at hfr
              generalize frM es D = mf at H hfr
              generalize os.map oE = om at H hget hcut
              have HC := Lib.hid hcut
              have HFR := Lib.hid hfr
              have HOO := Lib.hid HO
              have HL := Lib.hid (rfl : hR L = hR L)
              generalize hX : hR L = X at H
              generalize hNn : L.length = nl at H hnl
              have HX := Lib.hid hX
              have HN := Lib.hid hNn
              have HDE := Lib.hid hDe
              clear hcut hfr HO hX hNn hO hDl hDe
              have tk0 : True := trivial
              go_wp2_with (first
                | (guard_target =~ Code.wp _ (Code.region 17 _ true) _ _ _; replace H := H.swap; refine region_treeC 17 1 (G := True) (.q 0 (.q 1 (.q 2 (.q 3 (.q 4 (.q 5 (.q 6 (.q 7 (.q 8 (.q 9 (.q 10 (.q 11 (.q 12 (.q 13 (.e 14 (.e 15 (.e 16 .nil))))))))))))))))) (by kernel_rfl) (by intro c a d v w h; cases d <;> exact h) (by kernel_rfl) H ⟨trivial⟩ (fun _ w3 H2 => ?_); (clear H; (try clear w2); revert w3; intro w2 H); simp only [List.drop_succ_cons, List.drop_zero])
                | (guard_target =~ wpList _ _ _ (_ :: _) _ _; (first | (guard_target =~ wpList _ _ _ (Oper.mk _ (.load _ _) _ _ _ _ :: _) _ _; refine BigFrame.wpList_want rfl (fun K hK => ?_); (first | (refine o_loadC (v := ?_) (row := ?_) rfl rfl H ?_ ?_ ?_ (hK _ _ ?_); rotate_left 2; (repeat first | exact .head _ | apply List.Mem.tail); (exact rfl); (focus (intro _; simp [upd_same, Option.getD_some, hget]; done))) | (refine o_loadNC (row := ?_) rfl rfl H ?_ ?_ ?_ (hK _ _ ?_); rotate_left 1; (repeat first | exact .head _ | apply List.Mem.tail); (focus (intro _; simp [upd_same, Option.getD_some, hget]; done)); (focus (intro _; simp [upd_same, Option.getD_some, hget]; done)))); clear hK K) | (guard_target =~ wpList _ _ _ (Oper.mk _ (.store _ _ _) _ _ _ _ :: _) _ _; refine BigFrame.wpList_want rfl (fun K hK => ?_); refine o_store (l' := ?_) (row := ?_) rfl rfl H rfl ?_ ?_ ?_ ?_ (fun w3 H2 => hK _ _ ?_); rotate_left 2; (exact r0); (focus (intro _; (simp [Act.eval, Value.cells, List.getD, upd_same, Option.getD_some, hget]; done))); (focus (simp [Act.eval, Value.cells, List.getD, upd_same, Option.getD_some, hget]; done)); (exact rfl); clear hK K; clear H; (try clear w2); revert w3; intro w2 H; (try simp [Act.eval, List.getD, upd_same, Option.getD_some, hget] at H); (try simp [Value.cells, setL, upd_same, Option.getD_some, hget] at H)) | ((guard_target =~ wpList _ _ _ (Oper.mk _ (.alloc _) _ _ _ _ :: _) _ _; refine BigFrame.wpList_want rfl (fun K hK => ?_); refine o_alloc (z := ?_) rfl ?_ H rfl (fun w3 b2 he H2 => hK _ _ ?_); rotate_left 1; (focus (intro _; simp; with_reducible exact rfl))); clear hK K he; clear H; (try clear w2); revert w3; intro w2 H; (try simp [Act.eval, List.getD, upd_same, Option.getD_some, hget] at H); (try simp [Value.cells, setL, upd_same, Option.getD_some, hget] at H); (clear tk0; rename Nat => b6)) | (guard_target =~ wpList _ _ _ (Oper.mk _ (.mapUpdate _ _ _ _) _ _ _ _ :: _) _ _; refine BigFrame.wpList_want rfl (fun K hK => ?_); refine o_fromSet (l0 := ?_) (m := ?_) rfl rfl rfl rfl H ?_ (fun w3 H2 => hK _ _ ?_); rotate_left 2; (focus (intro _; (exact r7))); clear hK K; clear H; (try clear w2); revert w3; intro w2 H)); simp only [Act.put, List.setIfInBounds_toArray, List.set_cons_succ, List.set_cons_zero, upd_same, Option.getD_some, hget])
                | (guard_target =~ wpTreeC _ _ _ _ _ _ _; first | (guard_target =~ wpTreeC _ _ _ (Tr.e _ Tr.nil) _ _ _; refine treeC_last (by decide +kernel) H rfl rfl (fun w3 H2 K hK => ?_); clear H; (try clear w2); (revert w3; intro w2 H); simp only [List.getElem_toArray, List.getElem_cons_succ, List.getElem_cons_zero]; (guard_target =~ Oper.wp _ (Oper.mk _ (.mapUpdate _ _ _ _) _ _ _ _) _ _ _ _; refine o_outSet (l0 := ?_) (m := ?_) rfl rfl rfl rfl H ?_ (fun w3 H2 => hK _ _ ?_); rotate_left 2; (focus (intro _; (exact r7))); clear hK K; clear H; (try clear w2); revert w3; intro w2 H); simp only [Act.put, List.setIfInBounds_toArray, List.set_cons_succ, List.set_cons_zero, upd_same, Option.getD_some, hget]) | (guard_target =~ wpTreeC _ _ _ (Tr.q _ _) _ _ _; first | (refine treeC_quiet ⟨_, H, by repeat first | exact .here | apply Suf.there⟩ rfl rfl rfl (fun K hK => ?_); simp only [List.getElem_toArray, List.getElem_cons_succ, List.getElem_cons_zero]; first | (guard_target =~ Oper.quiet _ (Oper.mk _ (.lookup _ _ _ false) _ _ _ _) _ _ _; refine q_fromGet (m := ?_) rfl rfl rfl ?_ (hK _ ?_); rotate_left 1; (repeat first | exact .head _ | apply List.Mem.tail); clear hK K; simp only [Act.put, List.setIfInBounds_toArray, List.set_cons_succ, List.set_cons_zero, upd_same, Option.getD_some, hget]) | (guard_target =~ Oper.quiet _ (Oper.mk _ (.lookup _ _ _ true) _ _ _ _) _ _ _; refine q_fromOk (m := ?_) rfl rfl rfl ?_ (hK _ ?_); rotate_left 1; (repeat first | exact .head _ | apply List.Mem.tail); clear hK K; simp only [Act.put, List.setIfInBounds_toArray, List.set_cons_succ, List.set_cons_zero, upd_same, Option.getD_some, hget]) | (guard_target =~ Oper.quiet _ (Oper.mk _ (.lookup _ _ _ false) _ _ _ _) _ _ _; refine q_outGet (m := ?_) rfl rfl rfl ?_ (hK _ ?_); rotate_left 1; (repeat first | exact .head _ | apply List.Mem.tail); clear hK K; simp only [Act.put, List.setIfInBounds_toArray, List.set_cons_succ, List.set_cons_zero, upd_same, Option.getD_some, hget]) | (guard_target =~ Oper.quiet _ (Oper.mk _ (.lookup _ _ _ true) _ _ _ _) _ _ _; refine q_outOk (m := ?_) rfl rfl rfl ?_ (hK _ ?_); rotate_left 1; (repeat first | exact .head _ | apply List.Mem.tail); clear hK K; simp only [Act.put, List.setIfInBounds_toArray, List.set_cons_succ, List.set_cons_zero, upd_same, Option.getD_some, hget]) | (guard_target =~ Oper.quiet _ (Oper.mk _ (.load _ _) _ _ _ _) _ _ _; (first | (refine q_loadC (v := ?_) (row := ?_) rfl rfl ?_ ?_ ?_ (hK _ ?_); rotate_left 2; (repeat first | exact .head _ | apply List.Mem.tail); (exact rfl); (focus (intro _; simp [upd_same, Option.getD_some, hget]; done))) | (refine q_loadNC (row := ?_) rfl rfl ?_ ?_ ?_ (hK _ ?_); rotate_left 1; (repeat first | exact .head _ | apply List.Mem.tail); (focus (intro _; simp [upd_same, Option.getD_some, hget]; done)); (focus (intro _; simp [upd_same, Option.getD_some, hget]; done)))); clear hK K; simp only [Act.put, List.setIfInBounds_toArray, List.set_cons_succ, List.set_cons_zero, upd_same, Option.getD_some, hget]) | (go_big_quiet_op; (try refine ⟨_, fun _ _ => rfl, ?_⟩); refine hK _ ?_; clear hK K)) | (refine treeC_call (v := ?_) ⟨_, H, by repeat first | exact .here | apply Suf.there⟩ rfl rfl (fun w3 H K hK => ?_) ?_; rotate_left 1; (focus (simp only [List.getElem_toArray, List.getElem_cons_succ, List.getElem_cons_zero]; first | (go_big_op; first | exact hK _ (Ext.refl _)))); simp only [List.getElem_toArray, List.getElem_cons_succ, List.getElem_cons_zero, Act.put, List.setIfInBounds_toArray, List.set_cons_succ, List.set_cons_zero, upd_same, Option.getD_some, hget]) | (refine treeC_skip ⟨_, H, by repeat first | exact .here | apply Suf.there⟩ rfl rfl ?_; simp only [List.getElem_toArray, List.getElem_cons_succ, List.getElem_cons_zero, Act.put, List.setIfInBounds_toArray, List.set_cons_succ, List.set_cons_zero, upd_same, Option.getD_some, hget])) | (guard_target =~ wpTreeC _ _ _ (Tr.both _ _) _ _ _; refine treeC_both ?_ ?_) | (guard_target =~ wpTreeC _ _ _ (Tr.e _ _) _ _ _; first | (refine treeC_one H rfl rfl (fun w3 H2 K hK => ?_); clear H; (try clear w2); (revert w3; intro w2 H); simp only [List.getElem_toArray, List.getElem_cons_succ, List.getElem_cons_zero]; first | ((first | (guard_target =~ Oper.wp _ (Oper.mk _ (.call { callee := .builtin .append, args := _, argTypes := _ }) _ _ _ _) _ _ _ _; refine o_append (row := ?_) (n := ?_) (xs := ?_) (l' := ?_) infoHf rfl rfl rfl H ?_ rfl ?_ ?_ (by kernel_rfl) rfl (by decide) ?_ ?_ ?_ (fun v2 w3 H2 hn => hK _ _ ⟨_, H2, ?_⟩ ?_); rotate_left 4; (repeat first | exact .head _ | apply List.Mem.tail); (focus (simp; done)); (focus (intro _; (exact r1))); exact rfl; exact (by unfold maxLen; omega); exact (by omega); (guard_target =~ Suf _ _; repeat first | exact .here | apply Suf.there); clear hK K hn; clear H; (try clear w2); revert w3; intro w2 H; simp only [List.take_succ_cons, List.take_zero, Nat.one_mul] at H; (obtain ⟨A7, c7, rfl⟩ := H.growForm (v := v2) (by repeat first | exact .head _ | apply List.Mem.tail))) | ((guard_target =~ Oper.wp _ (Oper.mk _ (.buildSlice _ _ _) _ _ _ _) _ _ _ _; refine o_buildSlice (C := ?_) (E := ?_) rfl rfl H ?_ rfl (fun w3 b2 he H2 => hK _ _ ⟨_, H2, ?_⟩ ?_); rotate_left 2; (focus (intro _; simp [go_sem, Instr.buildSlice]; with_reducible exact rfl))); (guard_target =~ Suf _ _; repeat first | exact .here | apply Suf.there); clear hK K he; clear H; (try clear w2); revert w3; intro w2 H; (try simp [Act.eval, List.getD, upd_same, Option.getD_some, hget] at H); (try simp [Value.cells, setL, upd_same, Option.getD_some, hget] at H); (skip))); simp only [Act.put, List.setIfInBounds_toArray, List.set_cons_succ, List.set_cons_zero, upd_same, Option.getD_some, hget]) | (go_big_op; (first | fail))) | (refine treeC_one_skip (fun w3 hx => ⟨_, H.ext hx, by repeat first | exact .here | apply Suf.there⟩) rfl rfl (fun w3 hx => ?_); replace H := H.ext hx; clear hx; (try clear w2); revert w3; intro w2 H; simp only [List.getElem_toArray, List.getElem_cons_succ, List.getElem_cons_zero, Act.put, List.setIfInBounds_toArray, List.set_cons_succ, List.set_cons_zero, upd_same, Option.getD_some, hget])) | (guard_target =~ wpTreeC _ _ _ Tr.nil _ _ _; refine treeC_nil H (fun w3 H2 => ?_); clear H; (try clear w2); revert w3; intro w2 H)))
              go_roundg 0
              case rel =>
                rw [HC.out, upd_upd] at H
                have H4 := out_back (v := y) (L := L ++ [⟨i, true⟩]) (l := [_, _, _, _, _, _, _, _, _, _, _]) H.tail.swap.tail (by rw [← HN.out]; simp) (by rw [hR_add, ← HX.out])
                exact ⟨_, D ++ [⟨i, true⟩], by rw [HDE.out]; simp, HOO.out.next ⟨i, true⟩ _ HF.out.2, by omega, by simp, by rw [HFR.out]; exact H4⟩
              case measure => omega
            · go_wp2_with (first | fail)
              have hD2 : D = D0 ++ [⟨i, false⟩, ⟨i, true⟩] := by simpa using hDe
              go_roundg (gkA - 1)
              case rel => exact ⟨os, by rw [show es.length - (gkA - 1) = j + 1 by have := HJ.out; omega, HA.out, ← hD2]; exact hO, by omega, by have := HJ.out; congr 1; omega, by rw [show es.length - (gkA - 1) = j + 1 by have := HJ.out; omega, HA.out, ← hD2]; exact H.tail.tail⟩
              case measure => omega
        · obtain rfl : gk = 0 := by omega
          rw [Nat.sub_zero, List.take_length] at H hO
          have HW := Lib.hid (outW_start (vs := vs) hO)
          clear hO
          go_wp2_with (first
            | (guard_target =~ wpList _ _ _ (Oper.mk _ (.range _ _) _ _ _ _ :: _) _ _; refine BigFrame.wpList_want rfl (fun K hK => ?_); refine o_outRange (m := ?_) (l0 := ?_) rfl rfl H ?_ (fun w3 rI H2 => hK _ _ ?_); rotate_left 2; (focus (intro _; (exact r2))); clear hK K; clear H; (try clear w2); revert w3; intro w2 H; simp only [Act.put, List.setIfInBounds_toArray, List.set_cons_succ, List.set_cons_zero])
            | (guard_target =~ wpList _ _ _ (_ :: _) _ _; (guard_target =~ wpList _ _ _ (Oper.mk _ (.load _ _) _ _ _ _ :: _) _ _; refine BigFrame.wpList_want rfl (fun K hK => ?_); (refine o_loadC (v := ?_) (row := ?_) rfl rfl H ?_ ?_ ?_ (hK _ _ ?_); rotate_left 2; (repeat first | exact .head _ | apply List.Mem.tail); (exact rfl); (focus (intro _; simp; done))); clear hK K); simp only [Act.put, List.setIfInBounds_toArray, List.set_cons_succ, List.set_cons_zero]))
          rw [HMV.out.symm] at H
          go_loopg [] os.length (TuRel vs es w.heap.size w b3 ka kb kc kd rI (os.map oE) (.cells b2 [.map none, .map none, .map none, .map none]) (.cells b1 [.slice A vs.length c, .slice A2 es.length c2]) (.rd A2 b9 o9 (eR es)) (.rd A b0 o0 (vR vs)))
          case atStart => exact ⟨os, os.map oE, none, _, HW.out, by simp, rfl, H⟩
          case round =>
            clear H
            obtain ⟨os2, left, cur, nx, hW, hk, hent, H⟩ := hrel
            have HW2 := Lib.hid hW
            have HK := Lib.hid hk
            have HE := Lib.hid hent
            clear hW hk hent HW HMV
            have tk0 : True := trivial
            go_wp2_with (first
              | (guard_target =~ wpList _ _ _ (Oper.mk _ (.field _ _ 1) _ _ _ _ :: _) _ _; refine BigFrame.wpList_want rfl (fun K hK => ?_); refine o_fld rfl rfl (hK _ _ ?_); clear hK K; simp only [Act.put, List.setIfInBounds_toArray, List.set_cons_succ, List.set_cons_zero, upd_same, Option.getD_some, vxV, v3, fldP])
              | (guard_target =~ wpList _ _ _ (Oper.mk _ (.next _ _) _ _ _ _ :: _) _ _; refine BigFrame.wpList_want rfl (fun K hK => ?_); refine o_outNext (b := ?_) (m := ?_) (left := ?_) (cur := ?_) (l0 := ?_) rfl rfl H ?_ (fun hlf w3 H2 => hK _ _ ?_) (fun k2 q2 left2 w3 hlf H2 => hK _ _ ?_); rotate_left 5; (focus (intro _ _; (exact r2))); all_goals (clear hK K; clear H; (try clear w2); revert w3; intro w2 H); all_goals (first | (have hlf0 : _ = [] := hlf; clear hlf; (have HD := Lib.hid hlf0; clear hlf0)) | ((obtain ⟨L1, v, s, L, L2, rfl, rfl, HM, H3⟩ := tu_more HW2.out hlf H; clear H hlf; have H := H3; clear H3; have HMM := Lib.hid HM; clear HM))); all_goals (simp only [Act.put, List.setIfInBounds_toArray, List.set_cons_succ, List.set_cons_zero, upd_same, Option.getD_some, vxV, v3, fldP]))
              | (guard_target =~ wpList _ _ _ (Oper.mk _ (.entry _) _ _ _ _ :: _) _ _; refine BigFrame.wpList_want rfl (fun K hK => ?_); refine o_outEntry (b := ?_) (m := ?_) (left := ?_) (k := ?_) (q := ?_) rfl rfl H ?_ (hK _ _ ?_); rotate_left 5; (repeat first | exact .head _ | apply List.Mem.tail); clear hK K; simp only [Act.put, List.setIfInBounds_toArray, List.set_cons_succ, List.set_cons_zero, upd_same, Option.getD_some, vxV, v3, fldP])
              | (go_at_call 73; (with_reducible refine (sortH_any HR.out (sort_pt HR.out) HMM.out.at_ HMM.out.ne m5 m4 m1 m0 H.swap).mono ?_); rintro e w3 ⟨rfl, H2⟩; replace H := H2; clear H2; obtain ⟨bs, cs, rfl⟩ := H.growSome m0 (tu_pos HMM.out) (by decide); dsimp only)
              | (guard_target =~ wpList _ _ _ (_ :: _) _ _; (first | (guard_target =~ wpList _ _ _ (Oper.mk _ (.load _ _) _ _ _ _ :: _) _ _; refine BigFrame.wpList_want rfl (fun K hK => ?_); (first | (refine o_loadC (v := ?_) (row := ?_) rfl rfl H ?_ ?_ ?_ (hK _ _ ?_); rotate_left 2; (repeat first | exact .head _ | apply List.Mem.tail); (exact rfl); (focus (intro _; simp [upd_same, Option.getD_some, vxV, v3, fldP]; done))) | (refine o_loadNC (row := ?_) rfl rfl H ?_ ?_ ?_ (hK _ _ ?_); rotate_left 1; (repeat first | exact .head _ | apply List.Mem.tail); (focus (intro _; simp [upd_same, Option.getD_some, vxV, v3, fldP]; done)); (focus (intro _; simp [upd_same, Option.getD_some, vxV, v3, fldP]; done)))); clear hK K) | (guard_target =~ wpList _ _ _ (Oper.mk _ (.store _ _ _) _ _ _ _ :: _) _ _; refine BigFrame.wpList_want rfl (fun K hK => ?_); refine o_store (l' := ?_) (row := ?_) rfl rfl H rfl ?_ ?_ ?_ ?_ (fun w3 H2 => hK _ _ ?_); rotate_left 2; (first | exact r0 | exact r5); (focus (intro _; (simp [Act.eval, Value.cells, List.getD, upd_same, Option.getD_some, vxV, v3, fldP]; done))); (focus (simp [Act.eval, Value.cells, List.getD, upd_same, Option.getD_some, vxV, v3, fldP]; done)); (exact rfl); clear hK K; clear H; (try clear w2); revert w3; intro w2 H; (try simp [Act.eval, List.getD, upd_same, Option.getD_some, vxV, v3, fldP] at H); (try simp [Value.cells, setL, upd_same, Option.getD_some, vxV, v3, fldP] at H)) | ((guard_target =~ wpList _ _ _ (Oper.mk _ (.alloc _) _ _ _ _ :: _) _ _; refine BigFrame.wpList_want rfl (fun K hK => ?_); refine o_alloc (z := ?_) rfl ?_ H rfl (fun w3 b2 he H2 => hK _ _ ?_); rotate_left 1; (focus (intro _; simp; with_reducible exact rfl))); clear hK K he; clear H; (try clear w2); revert w3; intro w2 H; (try simp [Act.eval, List.getD, upd_same, Option.getD_some, vxV, v3, fldP] at H); (try simp [Value.cells, setL, upd_same, Option.getD_some, vxV, v3, fldP] at H); (clear tk0; rename Nat => bo)) | (guard_target =~ wpList _ _ _ (Oper.mk _ (.lookup _ _ _ false) _ _ _ _ :: _) _ _; refine BigFrame.wpList_want rfl (fun K hK => ?_); refine o_vatGet (m := ?_) rfl rfl rfl H ?_ (hK _ _ ?_); rotate_left 1; (repeat first | exact .head _ | apply List.Mem.tail); clear hK K)); simp only [Act.put, List.setIfInBounds_toArray, List.set_cons_succ, List.set_cons_zero, upd_same, Option.getD_some, vxV, v3, fldP]))
            · obtain ⟨hS, rfl⟩ := outW_end HW2.out HD.out
              have hr := H.loadVarN (P := Try.prog) (ty := 89) (b := b2) m5 (by simp) (by simp)
              refine bodyPost_ret (v := .agg #[.map (some ka), .map (some kb), .map (some kc), .map (some kd)]) (by simp [results, Try.results47, asAddr, hr]) rfl ⟨ka, kb, kc, kd, os2, rfl, hS, ?_⟩
              have H4 := H.tail.endI r1
              rw [HE.out]
              exact H4.sub (.cons_cons _ (.cons_cons _ (.cons_cons _ (.cons_cons _ (.cons _ (.cons _ (.cons _ (.cons _ (List.Sublist.refl _)))))))))
            · have hn : L.length = (outZ vs es k2).length := tu_len HR.out HMM.out.at_
              have hnl : L.length ≤ 2048 := tu_few HR.out HMM.out.at_
              have hn0 : 0 < L.length := tu_pos HMM.out
              have hnd := outZ_nodup HR.out k2
              have HM2 := Lib.hid HMM
              clear HMM
              generalize hZ : outZ vs es k2 = Z at H hn hnd
              generalize hN : L.length = n at H hn hnl hn0 ⊢
              have HZ := Lib.hid hZ
              have HN := Lib.hid hN
              have HNn := Lib.hid hn
              have HND := Lib.hid hnd
              clear hZ hN hnd hn
              go_loopg [98] n (fun k i wr => k ≤ n ∧ i = .int .i64 ((n - k : Nat) : Int) ∧ Own w.heap.size w wr (.grow 36 2 (.slice (some ⟨bs, 0, none⟩) n cs) n (hR Z) :: .cells bo [.int .i64 ((vtM vs k2).getD zVt).p.x, .int .i64 ((vtM vs k2).getD zVt).p.y] :: .cells b3 [.map (some ka), .map (some kb), .map (some kc), .map (some kd)] :: mNxt kd (nxI Z nx (n - k)) :: iOut kc rI (os.map oE) left2 (some (k2, .slice (some ⟨bs, 0, none⟩) n cs)) :: mFrom kb (frM es (halves es)) :: mVat ka (vtM vs) :: .cells b2 [.map none, .map none, .map none, .map none] :: .cells b1 [.slice A vs.length c, .slice A2 es.length c2] :: .rd A2 b9 o9 (eR es) :: .rd A b0 o0 (vR vs) :: (L1 ++ L2).map oB))
              case atStart => exact ⟨Nat.le_refl _, by simp, by rw [Nat.sub_self, nxI_zero, List.map_append]; exact H⟩
              case round =>
                clear H
                obtain ⟨hkn, rfl, H⟩ := hrel
                have HGK := Lib.hid hk
                by_cases hlt : 0 < gk
                · obtain ⟨j, hj⟩ : ∃ j, n - gk = j := ⟨_, rfl⟩
                  have hjl : j < n := by omega
                  rw [hj] at H ⊢
                  obtain ⟨e, b, he⟩ : ∃ e b, Z[j]? = some ⟨e, b⟩ := ⟨_, _, List.getElem?_eq_getElem (by have := HNn.out; omega)⟩
                  obtain ⟨m, hm⟩ : ∃ m, (j + n - 1) % n = m := ⟨_, rfl⟩
                  have hmz : ((j : Int) + (n : Int) - 1) % (n : Int) = (m : Int) := by rw [← hm, Int.natCast_emod]; congr 1; omega
                  have hml : m < n := by rw [← hm]; exact Nat.mod_lt _ hn0
                  obtain ⟨e2, c2', he2⟩ : ∃ e b, Z[m]? = some ⟨e, b⟩ := ⟨_, _, List.getElem?_eq_getElem (by have := HNn.out; omega)⟩
                  have p1 : (Res.grow 36 2 (.slice (some ⟨bs, 0, none⟩) n cs) n (hR Z)).at bs (j * 2) [.int .i64 e, .bool b] := at_grow (hR_at he)
                  have p2 : (Res.grow 36 2 (.slice (some ⟨bs, 0, none⟩) n cs) n (hR Z)).at bs (m * 2) [.int .i64 e2, .bool c2'] := at_grow (hR_at he2)
                  have hst := nxI_step (nx := nx) HND.out he
                  rw [← HNn.out, hm, he2] at hst
                  simp only [Option.getD_some] at hst
                  generalize nxI Z nx j = mm at H hst
                  have HST := Lib.hid hst
                  have HMd := Lib.hid hm
                  have HJ := Lib.hid hj
                  clear he he2 hst hm hj
                  have tk0 : True := trivial
                  go_wp2_with (first
                    | (guard_target =~ Code.wp _ (Code.region 28 _ true) _ _ _; refine region_treeC0 28 (G := True) (.q 0 (.q 1 (.q 2 (.q 3 (.q 4 (.q 5 (.q 6 (.q 7 (.q 8 (.q 9 (.q 10 (.q 11 (.q 12 (.q 13 (.q 14 (.e 15 .nil)))))))))))))))) (by kernel_rfl) (by intro c a d v w h; cases d <;> exact h) (by kernel_rfl) H ⟨trivial⟩ (fun _ w3 H2 => ?_); (clear H; (try clear w2); revert w3; intro w2 H))
                    | (guard_target =~ wpList _ _ _ (_ :: _) _ _; (first | (guard_target =~ wpList _ _ _ (Oper.mk _ (.load _ _) _ _ _ _ :: _) _ _; refine BigFrame.wpList_want rfl (fun K hK => ?_); (refine o_loadN (cs := ?_) (r := ?_) rfl rfl H ?_ ?_ ?_ ?_ (hK _ _ ?_); rotate_left 2; (with_reducible assumption); (repeat first | exact .head _ | apply List.Mem.tail); (focus (intro _; simp [hmz]; done)); (focus (intro _; simp [hmz]; done))); clear hK K) | (guard_target =~ wpList _ _ _ (Oper.mk _ (.store _ _ _) _ _ _ _ :: _) _ _; refine BigFrame.wpList_want rfl (fun K hK => ?_); refine o_store (l' := ?_) (row := ?_) rfl rfl H rfl ?_ ?_ ?_ ?_ (fun w3 H2 => hK _ _ ?_); rotate_left 2; (exact r0); (focus (intro _; (simp [Act.eval, Value.cells, List.getD, hmz]; done))); (focus (simp [Act.eval, Value.cells, List.getD, hmz]; done)); (exact rfl); clear hK K; clear H; (try clear w2); revert w3; intro w2 H; (try simp [Act.eval, List.getD, hmz] at H); (try simp [Value.cells, setL, hmz] at H)) | ((guard_target =~ wpList _ _ _ (Oper.mk _ (.alloc _) _ _ _ _ :: _) _ _; refine BigFrame.wpList_want rfl (fun K hK => ?_); refine o_alloc (z := ?_) rfl ?_ H rfl (fun w3 b2 he H2 => hK _ _ ?_); rotate_left 1; (focus (intro _; simp; with_reducible exact rfl))); clear hK K he; clear H; (try clear w2); revert w3; intro w2 H; (try simp [Act.eval, List.getD, hmz] at H); (try simp [Value.cells, setL, hmz] at H); (clear tk0; rename Nat => bh))); simp only [Act.put, List.setIfInBounds_toArray, List.set_cons_succ, List.set_cons_zero, hmz])
                    | (guard_target =~ wpTreeC _ _ _ _ _ _ _; first | (guard_target =~ wpTreeC _ _ _ (Tr.e _ Tr.nil) _ _ _; refine treeC_last (by decide +kernel) H rfl rfl (fun w3 H2 K hK => ?_); clear H; (try clear w2); (revert w3; intro w2 H); simp only [List.getElem_toArray, List.getElem_cons_succ, List.getElem_cons_zero]; (guard_target =~ Oper.wp _ (Oper.mk _ (.mapUpdate _ _ _ _) _ _ _ _) _ _ _ _; refine o_nxtSet (l0 := ?_) (m := ?_) rfl rfl rfl rfl H ?_ (fun w3 H2 => hK _ _ ?_); rotate_left 2; (focus (intro _; (exact r4))); clear hK K; clear H; (try clear w2); revert w3; intro w2 H); simp only [Act.put, List.setIfInBounds_toArray, List.set_cons_succ, List.set_cons_zero, hmz]) | (guard_target =~ wpTreeC _ _ _ (Tr.q _ _) _ _ _; first | (refine treeC_quiet ⟨_, H, by repeat first | exact .here | apply Suf.there⟩ rfl rfl rfl (fun K hK => ?_); simp only [List.getElem_toArray, List.getElem_cons_succ, List.getElem_cons_zero]; first | (guard_target =~ Oper.quiet _ (Oper.mk _ (.lookup _ _ _ false) _ _ _ _) _ _ _; refine q_nxtGet (m := ?_) rfl rfl rfl ?_ (hK _ ?_); rotate_left 1; (repeat first | exact .head _ | apply List.Mem.tail); clear hK K; simp only [Act.put, List.setIfInBounds_toArray, List.set_cons_succ, List.set_cons_zero, hmz]) | (guard_target =~ Oper.quiet _ (Oper.mk _ (.lookup _ _ _ true) _ _ _ _) _ _ _; refine q_nxtOk (m := ?_) rfl rfl rfl ?_ (hK _ ?_); rotate_left 1; (repeat first | exact .head _ | apply List.Mem.tail); clear hK K; simp only [Act.put, List.setIfInBounds_toArray, List.set_cons_succ, List.set_cons_zero, hmz]) | (guard_target =~ Oper.quiet _ (Oper.mk _ (.load _ _) _ _ _ _) _ _ _; (first | (refine q_loadC (v := ?_) (row := ?_) rfl rfl ?_ ?_ ?_ (hK _ ?_); rotate_left 2; (repeat first | exact .head _ | apply List.Mem.tail); (exact rfl); (focus (intro _; simp [hmz]; done))) | (refine q_loadN (cs := ?_) (r := ?_) rfl rfl ?_ ?_ ?_ ?_ (hK _ ?_); rotate_left 2; (with_reducible assumption); (repeat first | exact .head _ | apply List.Mem.tail); (focus (intro _; simp [hmz]; done)); (focus (intro _; simp [hmz]; done))) | (refine q_loadNC (row := ?_) rfl rfl ?_ ?_ ?_ (hK _ ?_); rotate_left 1; (repeat first | exact .head _ | apply List.Mem.tail); (focus (intro _; simp [hmz]; done)); (focus (intro _; simp [hmz]; done)))); clear hK K; simp only [Act.put, List.setIfInBounds_toArray, List.set_cons_succ, List.set_cons_zero, hmz]) | (go_big_quiet_op; (try refine ⟨_, fun _ _ => rfl, ?_⟩); refine hK _ ?_; clear hK K)) | (refine treeC_call (v := ?_) ⟨_, H, by repeat first | exact .here | apply Suf.there⟩ rfl rfl (fun w3 H K hK => ?_) ?_; rotate_left 1; (focus (simp only [List.getElem_toArray, List.getElem_cons_succ, List.getElem_cons_zero]; first | (go_big_op; first | exact hK _ (Ext.refl _) | (go_at_call 19; (with_reducible refine (twin_any _ _ _).mono ?_); rintro e w3 ⟨rfl, hb⟩; dsimp only; first | exact hK _ hb | exact hK _ (Ext.refl _))))); simp only [List.getElem_toArray, List.getElem_cons_succ, List.getElem_cons_zero, Act.put, List.setIfInBounds_toArray, List.set_cons_succ, List.set_cons_zero, hmz]) | (refine treeC_skip ⟨_, H, by repeat first | exact .here | apply Suf.there⟩ rfl rfl ?_; simp only [List.getElem_toArray, List.getElem_cons_succ, List.getElem_cons_zero, Act.put, List.setIfInBounds_toArray, List.set_cons_succ, List.set_cons_zero, hmz])) | (guard_target =~ wpTreeC _ _ _ (Tr.both _ _) _ _ _; refine treeC_both ?_ ?_) | (guard_target =~ wpTreeC _ _ _ (Tr.e _ _) _ _ _; first | (refine treeC_one H rfl rfl (fun w3 H2 K hK => ?_); clear H; (try clear w2); (revert w3; intro w2 H); simp only [List.getElem_toArray, List.getElem_cons_succ, List.getElem_cons_zero]; first | ((first | fail); simp only [Act.put, List.setIfInBounds_toArray, List.set_cons_succ, List.set_cons_zero, hmz]) | (go_big_op; (first | fail))) | (refine treeC_one_skip (fun w3 hx => ⟨_, H.ext hx, by repeat first | exact .here | apply Suf.there⟩) rfl rfl (fun w3 hx => ?_); replace H := H.ext hx; clear hx; (try clear w2); revert w3; intro w2 H; simp only [List.getElem_toArray, List.getElem_cons_succ, List.getElem_cons_zero, Act.put, List.setIfInBounds_toArray, List.set_cons_succ, List.set_cons_zero, hmz])) | (guard_target =~ wpTreeC _ _ _ Tr.nil _ _ _; refine treeC_nil H (fun w3 H2 => ?_); clear H; (try clear w2); revert w3; intro w2 H)))
                  go_roundg (gk - 1)
                  case rel => exact ⟨by omega, by have := HJ.out; congr 1; omega, by rw [show n - (gk - 1) = j + 1 by have := HJ.out; omega, HST.out, List.map_append]; exact H.tail⟩
                  case measure => omega
                · obtain rfl : gk = 0 := by omega
                  rw [Nat.sub_zero] at H
                  go_wp2_with (first | fail)
                  go_roundg left2.length
                  case rel =>
                    obtain ⟨hos2, hperm, hlen, _, _⟩ := HM2.out.out
                    have hnx := outW_next (o := ⟨k2, _, L⟩) HR.out (by rw [← hos2]; exact HW2.out) hperm
                    simp only [HZ.out, ← HNn.out, HN.out] at hnx
                    refine ⟨_, left2, some (k2, .slice (some ⟨bs, 0, none⟩) n cs), _, hnx, rfl, ?_, tu_back (o := ⟨k2, _, Z⟩) ?_⟩
                    · rw [← HE.out, hos2]; simp [HN.out]
                    · have H4 := H.swap.tail
                      rw [show (Res.grow 36 2 (.slice (some ⟨bs, 0, none⟩) n cs) n (hR Z)) = oB ⟨k2, .slice (some ⟨bs, 0, none⟩) n cs, Z⟩ by rw [HNn.out]] at H4
                      exact H4
                  case measure => have := HM2.out.out.len; have := HK.out; omega
end Go.Proofs.Ytlhmjhildlnokaa
