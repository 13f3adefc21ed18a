/-
  The walks of plan: when a plan is right.
-/
import Derived.Test.YtlhmjhildlnokaaPlan3
namespace Go.Proofs.Ytlhmjhildlnokaa
set_option linter.unusedVariables false
set_option linter.unusedSimpArgs false
open Go.RowKit

def lastV (l : List Vt) : Int := (l.getLast?.map (·.id)).getD 0
def lastE (l : List Eg) : Int := (l.getLast?.map (·.id)).getD 0
def metM (l : List Vt) : Pt → Option Bool := l.foldl (fun m v => upd m v.p true) (fun _ => none)
def pairM (l : List Eg) : Pt → Option Bool := l.foldl (fun m e => upd m ⟨min e.a e.b, max e.a e.b⟩ true) (fun _ => none)
theorem metM_step {vs : List Vt} {k : Nat} {i x y : Int} (h : vs[k]? = some ⟨i, ⟨x, y⟩⟩) : metM (vs.take (k + 1)) = upd (metM (vs.take k)) ⟨x, y⟩ true := by
  unfold metM
  rw [List.take_add_one, h, List.foldl_append]; rfl
theorem pairM_step {es : List Eg} {k : Nat} {i x y : Int} (h : es[k]? = some ⟨i, x, y⟩) : pairM (es.take (k + 1)) = upd (pairM (es.take k)) ⟨min x y, max x y⟩ true := by
  unfold pairM
  rw [List.take_add_one, h, List.foldl_append]; rfl
theorem lastV_step {vs : List Vt} {k : Nat} {v : Vt} (h : vs[k]? = some v) : lastV (vs.take (k + 1)) = v.id := by
  unfold lastV
  rw [List.take_add_one, h]; simp
theorem lastE_step {es : List Eg} {k : Nat} {e : Eg} (h : es[k]? = some e) : lastE (es.take (k + 1)) = e.id := by
  unfold lastE
  rw [List.take_add_one, h]; simp
def vOK (vs : List Vt) (j : Nat) : Bool :=
  match vs[j]? with
  | some v => !(decide (v.id ≤ lastV (vs.take j)) || (!inB v.p || (metM (vs.take j) v.p).getD false))
  | none => true
def eOK (vs : List Vt) (es : List Eg) (j : Nat) : Bool :=
  match es[j]? with
  | some e => !(decide (e.id ≤ lastE (es.take j)) || (!(atM vs e.a).isSome || (!(atM vs e.b).isSome || (e.a == e.b || ((pairM (es.take j) ⟨min e.a e.b, max e.a e.b⟩).getD false || ((vs.any fun v => onB v.p (atP vs e.a) (atP vs e.b)) || crossB vs (es.take j) (atP vs e.a) (atP vs e.b)))))))
  | none => true
def rightB (vs : List Vt) (es : List Eg) : Bool := !(decide (512 < vs.length) || decide (1024 < es.length)) && ((List.range vs.length).all (vOK vs) && (List.range es.length).all (eOK vs es))
theorem range_step {f : Nat → Bool} {j : Nat} (h : (List.range j).all f = true) (hf : f j = true) : (List.range (j + 1)).all f = true := by
  rw [List.range_succ, List.all_append, h]; simp [hf]
theorem range_no {f : Nat → Bool} {j n : Nat} (hj : j < n) (hf : f j = false) : (List.range n).all f = false := by
  rw [Bool.eq_false_iff]
  intro h
  have := List.all_eq_true.1 h j (List.mem_range.2 hj)
  rw [hf] at this; cases this
theorem right_len (vs : List Vt) (es : List Eg) (h : (decide (512 < vs.length) || decide (1024 < es.length)) = true) : rightB vs es = false := by unfold rightB; rw [h]; rfl
theorem right_v (vs : List Vt) (es : List Eg) {j : Nat} (hj : j < vs.length) (h : vOK vs j = false) : rightB vs es = false := by unfold rightB; rw [range_no hj h]; simp
theorem right_e (vs : List Vt) (es : List Eg) {j : Nat} (hj : j < es.length) (h : eOK vs es j = false) : rightB vs es = false := by unfold rightB; rw [range_no hj h]; simp
theorem eta_b (p : Pt) (x y : Int) (h : p = ⟨x, y⟩) : p.x = x ∧ p.y = y := by rw [h]; exact ⟨rfl, rfl⟩
theorem right_y (vs : List Vt) (es : List Eg) (h1 : vs.length ≤ 512) (h2 : es.length ≤ 1024) (h3 : (List.range vs.length).all (vOK vs) = true) (h4 : (List.range es.length).all (eOK vs es) = true) : rightB vs es = true := by
  unfold rightB; rw [h3, h4]
  simp; omega
set_option maxRecDepth 200000 in
set_option maxHeartbeats 16000000 in
theorem right_any (vs : List Vt) (es : List Eg) (A A2 : Option Addr) (n m : Nat) (c c2 : Nat) (F : Nat → Prop) (w : World) (hn : n = vs.length) (hm : m = es.length) (hs : Sl F w A (vR vs)) (hs2 : Sl F w A2 (eR es)) (hl : n ≤ 1000000) (hl2 : m ≤ 1000000) (hc2 : m ≤ c2) (hcc : c2 ≤ maxLen) :
    Calls Try.prog 25 #[.agg #[.slice A n c, .slice A2 m c2]] w fun e w' => e = .returned (.bool (rightB vs es)) ∧ Below w.heap.size w w' := by
  obtain ⟨v, hv⟩ : ∃ v, rightB vs es = v := ⟨_, rfl⟩
  have HV := Lib.hid hv
  rw [hv]; clear hv
  obtain ⟨b0, o0, H1, f0⟩ := (Own.start w).addSl (hs.ro (by rfl))
  obtain ⟨b9, o9, H, f9⟩ := H1.addSl (hs2.ro (by rfl))
  clear hs hs2 H1
  subst hn hm
  by_cases g1 : 512 < vs.length
  · have g1' : (decide ((512 : Int) < (vs.length : Int))) = true := by simp; omega
    go_enter Try.func25, Try.ntmps25
    have tk0 : True := trivial
    go_wp2_with (first
      | go_big_skip
      | (guard_target =~ wpList _ _ _ (_ :: _) _ _; (first | (guard_target =~ wpList _ _ _ (Oper.mk _ (.load _ _) _ _ _ _ :: _) _ _; refine BigFrame.wpList_want rfl (fun K hK => ?_); (refine o_loadC (v := ?_) (row := ?_) rfl rfl H ?_ ?_ ?_ (hK _ _ ?_); rotate_left 2; (repeat first | exact .head _ | apply List.Mem.tail); (exact rfl); (focus (intro _; simp; done))); clear hK K) | ((guard_target =~ wpList _ _ _ (Oper.mk _ (.box _ _) _ _ _ _ :: _) _ _; refine BigFrame.wpList_want rfl (fun K hK => ?_); refine o_box rfl H rfl (fun w3 b2 he H2 => hK _ _ ?_)); clear hK K he; clear H; (try clear w2); revert w3; intro w2 H; simp [Act.eval, Value.cells, setL, List.getD] at H; (clear tk0; rename Nat => b1))); simp only [Act.put, List.setIfInBounds_toArray, List.set_cons_succ, List.set_cons_zero]))
    go_ret
    exact ⟨ret_b (by rw [← HV.out, right_len vs es (by simp [g1])]), H.below⟩
  have g1' : (decide ((512 : Int) < (vs.length : Int))) = false := by simp; omega
  by_cases g2 : 1024 < es.length
  · have g2' : (decide ((1024 : Int) < (es.length : Int))) = true := by simp; omega
    go_enter Try.func25, Try.ntmps25
    have tk0 : True := trivial
    go_wp2_with (guard_target =~ wpList _ _ _ (_ :: _) _ _; (first | (guard_target =~ wpList _ _ _ (Oper.mk _ (.load _ _) _ _ _ _ :: _) _ _; refine BigFrame.wpList_want rfl (fun K hK => ?_); (refine o_loadC (v := ?_) (row := ?_) rfl rfl H ?_ ?_ ?_ (hK _ _ ?_); rotate_left 2; (repeat first | exact .head _ | apply List.Mem.tail); (exact rfl); (focus (intro _; simp; done))); clear hK K) | ((guard_target =~ wpList _ _ _ (Oper.mk _ (.box _ _) _ _ _ _ :: _) _ _; refine BigFrame.wpList_want rfl (fun K hK => ?_); refine o_box rfl H rfl (fun w3 b2 he H2 => hK _ _ ?_)); clear hK K he; clear H; (try clear w2); revert w3; intro w2 H; simp [Act.eval, Value.cells, setL, List.getD] at H; (clear tk0; rename Nat => b1))); simp only [Act.put, List.setIfInBounds_toArray, List.set_cons_succ, List.set_cons_zero])
    go_ret
    exact ⟨ret_b (by rw [← HV.out, right_len vs es (by simp [g2])]), H.below⟩
  have g2' : (decide ((1024 : Int) < (es.length : Int))) = false := by simp; omega
  go_enter Try.func25, Try.ntmps25
  have tk0 : True := trivial
  have tk1 : True := trivial
  have tk2 : True := trivial
  go_wp2_with (guard_target =~ wpList _ _ _ (_ :: _) _ _; (first | (guard_target =~ wpList _ _ _ (Oper.mk _ (.load _ _) _ _ _ _ :: _) _ _; refine BigFrame.wpList_want rfl (fun K hK => ?_); (refine o_loadC (v := ?_) (row := ?_) rfl rfl H ?_ ?_ ?_ (hK _ _ ?_); rotate_left 2; (repeat first | exact .head _ | apply List.Mem.tail); (exact rfl); (focus (intro _; simp; done))); clear hK K) | ((guard_target =~ wpList _ _ _ (Oper.mk _ (.box _ _) _ _ _ _ :: _) _ _; refine BigFrame.wpList_want rfl (fun K hK => ?_); refine o_box rfl H rfl (fun w3 b2 he H2 => hK _ _ ?_)); clear hK K he; clear H; (try clear w2); revert w3; intro w2 H; simp [Act.eval, Value.cells, setL, List.getD] at H; (clear tk0; rename Nat => b1)) | (guard_target =~ wpList _ _ _ (Oper.mk _ (.makeMap _ _) _ _ _ _ :: _) _ _; refine BigFrame.wpList_want rfl (fun K hK => ?_); refine o_atMake rfl H (fun w3 b2 he H2 => hK _ _ ?_); clear hK K he; clear H; (try clear w2); revert w3; intro w2 H; (clear tk1; rename Nat => b2)) | (guard_target =~ wpList _ _ _ (Oper.mk _ (.makeMap _ _) _ _ _ _ :: _) _ _; refine BigFrame.wpList_want rfl (fun K hK => ?_); refine o_metMake rfl H (fun w3 b2 he H2 => hK _ _ ?_); clear hK K he; clear H; (try clear w2); revert w3; intro w2 H; (clear tk2; rename Nat => b3))); simp only [Act.put, List.setIfInBounds_toArray, List.set_cons_succ, List.set_cons_zero])
  go_loopg [30, 5] vs.length (fun k i d wr => k ≤ vs.length ∧ i = .int .i64 ((vs.length - k : Nat) : Int) ∧ d = .int .i64 (lastV (vs.take (vs.length - k))) ∧ (List.range (vs.length - k)).all (vOK vs) = true ∧ Own w.heap.size w wr [mHas b3 (metM (vs.take (vs.length - k))), mAt b2 (atM (vs.take (vs.length - k))), .cells b1 [.slice A vs.length c, .slice A2 es.length c2], .rd A2 b9 o9 (eR es), .rd A b0 o0 (vR vs)])
  case atStart => exact ⟨Nat.le_refl _, by simp, by simp [lastV], by simp, by rw [Nat.sub_self]; exact H⟩
  case round =>
    clear H
    obtain ⟨hk, rfl, rfl, ht, H⟩ := hrel
    have HT := Lib.hid ht
    clear ht
    by_cases hlt : 0 < gk
    · obtain ⟨j, hj⟩ : ∃ j, vs.length - gk = j := ⟨_, rfl⟩
      have hjl : j < vs.length := by omega
      rw [hj] at HT H ⊢
      obtain ⟨i, x, y, he⟩ := vt_at vs hjl
      obtain rfl := H.rdAddr m4 (vR_pos he)
      have hp := at_v (A := some ⟨b0, o0, none⟩) (b := b0) (off := o0) he
      have hst := atM_step he
      have hst2 := metM_step he
      have hst3 := lastV_step he
      have hok : vOK vs j = !(decide (i ≤ lastV (vs.take j)) || (!inB ⟨x, y⟩ || (metM (vs.take j) ⟨x, y⟩).getD false)) := by unfold vOK; rw [he]
      have hin := geomIn_any x y
      generalize atM (vs.take j) = mm at H hst
      generalize metM (vs.take j) = mt at H hst2 hok
      generalize lastV (vs.take j) = d at hok ⊢
      obtain ⟨v1, hv1⟩ : ∃ v, decide (i ≤ d) = v := ⟨_, rfl⟩
      obtain ⟨v2, hv2⟩ : ∃ v, inB ⟨x, y⟩ = v := ⟨_, rfl⟩
      obtain ⟨v3, hv3⟩ : ∃ v, (mt ⟨x, y⟩).getD false = v := ⟨_, rfl⟩
      rw [hv1, hv2, hv3] at hok
      rw [hv2] at hin
      have HA := Lib.hid hst
      have HB := Lib.hid hst2
      have HC := Lib.hid hst3
      have HJ := Lib.hid hj
      have HO := Lib.hid hok
      clear he hst hst2 hst3 hj hv2 hok
      cases v1
      rotate_left 1
      · have tk0 : True := trivial
        go_wp2_with (first
          | go_big_skip
          | (guard_target =~ wpList _ _ _ (_ :: _) _ _; (first | (guard_target =~ wpList _ _ _ (Oper.mk _ (.load _ _) _ _ _ _ :: _) _ _; refine BigFrame.wpList_want rfl (fun K hK => ?_); (first | (refine o_loadC (v := ?_) (row := ?_) rfl rfl H ?_ ?_ ?_ (hK _ _ ?_); rotate_left 2; (repeat first | exact .head _ | apply List.Mem.tail); (exact rfl); (focus (intro _; simp; done))) | (refine o_loadN (cs := ?_) (r := ?_) rfl rfl H ?_ ?_ ?_ ?_ (hK _ _ ?_); rotate_left 2; (with_reducible assumption); (repeat first | exact .head _ | apply List.Mem.tail); (focus (intro _; simp; done)); (focus (intro _; simp; done)))); clear hK K) | (guard_target =~ wpList _ _ _ (Oper.mk _ (.store _ _ _) _ _ _ _ :: _) _ _; refine BigFrame.wpList_want rfl (fun K hK => ?_); refine o_store (l' := ?_) (row := ?_) rfl rfl H rfl ?_ ?_ ?_ ?_ (fun w3 H2 => hK _ _ ?_); rotate_left 2; (exact r0); (focus (intro _; simp [Act.eval, Value.cells]; done)); (focus (simp [Act.eval, Value.cells]; done)); (exact rfl); clear hK K; clear H; (try clear w2); revert w3; intro w2 H; simp [Act.eval, Value.cells, setL, List.getD] at H) | ((guard_target =~ wpList _ _ _ (Oper.mk _ (.alloc _) _ _ _ _ :: _) _ _; refine BigFrame.wpList_want rfl (fun K hK => ?_); refine o_alloc (z := ?_) rfl ?_ H rfl (fun w3 b2 he H2 => hK _ _ ?_); rotate_left 1; (focus (intro _; simp; with_reducible exact rfl))); clear hK K he; clear H; (try clear w2); revert w3; intro w2 H; simp [Act.eval, Value.cells, setL, List.getD] at H; (clear tk0; rename Nat => b4))); simp only [Act.put, List.setIfInBounds_toArray, List.set_cons_succ, List.set_cons_zero]))
        go_ret
        exact ⟨ret_b (by rw [← HV.out, right_v vs es hjl (by rw [HO.out]; rfl)]), H.below⟩
      cases v2
      · have tk0 : True := trivial
        go_wp2_with (first
          | (go_at_call 55; (with_reducible refine (hin _).mono ?_); rintro e w3 ⟨rfl, hb⟩; replace H := H.ext hb; clear hb; dsimp only)
          | (guard_target =~ wpList _ _ _ (_ :: _) _ _; (first | (guard_target =~ wpList _ _ _ (Oper.mk _ (.load _ _) _ _ _ _ :: _) _ _; refine BigFrame.wpList_want rfl (fun K hK => ?_); (first | (refine o_loadPt (n := ?_) (d := ?_) rfl rfl H ?_ ?_ ?_ (hK _ _ ?_); rotate_left 2; (repeat first | exact .head _ | apply List.Mem.tail); (focus (intro _; simp; done)); (focus (intro _; simp; done))) | (refine o_loadC (v := ?_) (row := ?_) rfl rfl H ?_ ?_ ?_ (hK _ _ ?_); rotate_left 2; (repeat first | exact .head _ | apply List.Mem.tail); (exact rfl); (focus (intro _; simp; done))) | (refine o_loadN (cs := ?_) (r := ?_) rfl rfl H ?_ ?_ ?_ ?_ (hK _ _ ?_); rotate_left 2; (with_reducible assumption); (repeat first | exact .head _ | apply List.Mem.tail); (focus (intro _; simp; done)); (focus (intro _; simp; done)))); clear hK K) | (guard_target =~ wpList _ _ _ (Oper.mk _ (.store _ _ _) _ _ _ _ :: _) _ _; refine BigFrame.wpList_want rfl (fun K hK => ?_); refine o_store (l' := ?_) (row := ?_) rfl rfl H rfl ?_ ?_ ?_ ?_ (fun w3 H2 => hK _ _ ?_); rotate_left 2; (exact r0); (focus (intro _; simp [Act.eval, Value.cells]; done)); (focus (simp [Act.eval, Value.cells]; done)); (exact rfl); clear hK K; clear H; (try clear w2); revert w3; intro w2 H; simp [Act.eval, Value.cells, setL, List.getD] at H) | ((guard_target =~ wpList _ _ _ (Oper.mk _ (.alloc _) _ _ _ _ :: _) _ _; refine BigFrame.wpList_want rfl (fun K hK => ?_); refine o_alloc (z := ?_) rfl ?_ H rfl (fun w3 b2 he H2 => hK _ _ ?_); rotate_left 1; (focus (intro _; simp; with_reducible exact rfl))); clear hK K he; clear H; (try clear w2); revert w3; intro w2 H; simp [Act.eval, Value.cells, setL, List.getD] at H; (clear tk0; rename Nat => b4))); simp only [Act.put, List.setIfInBounds_toArray, List.set_cons_succ, List.set_cons_zero]))
        go_ret
        exact ⟨ret_b (by rw [← HV.out, right_v vs es hjl (by rw [HO.out]; rfl)]), H.below⟩
      cases v3
      rotate_left 1
      · have tk0 : True := trivial
        go_wp2_with (first
          | (go_at_call 55; (with_reducible refine (hin _).mono ?_); rintro e w3 ⟨rfl, hb⟩; replace H := H.ext hb; clear hb; dsimp only)
          | (guard_target =~ wpList _ _ _ (_ :: _) _ _; (first | (guard_target =~ wpList _ _ _ (Oper.mk _ (.load _ _) _ _ _ _ :: _) _ _; refine BigFrame.wpList_want rfl (fun K hK => ?_); (first | (refine o_loadPt (n := ?_) (d := ?_) rfl rfl H ?_ ?_ ?_ (hK _ _ ?_); rotate_left 2; (repeat first | exact .head _ | apply List.Mem.tail); (focus (intro _; simp; done)); (focus (intro _; simp; done))) | (refine o_loadC (v := ?_) (row := ?_) rfl rfl H ?_ ?_ ?_ (hK _ _ ?_); rotate_left 2; (repeat first | exact .head _ | apply List.Mem.tail); (exact rfl); (focus (intro _; simp; done))) | (refine o_loadN (cs := ?_) (r := ?_) rfl rfl H ?_ ?_ ?_ ?_ (hK _ _ ?_); rotate_left 2; (with_reducible assumption); (repeat first | exact .head _ | apply List.Mem.tail); (focus (intro _; simp; done)); (focus (intro _; simp; done)))); clear hK K) | (guard_target =~ wpList _ _ _ (Oper.mk _ (.store _ _ _) _ _ _ _ :: _) _ _; refine BigFrame.wpList_want rfl (fun K hK => ?_); refine o_store (l' := ?_) (row := ?_) rfl rfl H rfl ?_ ?_ ?_ ?_ (fun w3 H2 => hK _ _ ?_); rotate_left 2; (exact r0); (focus (intro _; simp [Act.eval, Value.cells]; done)); (focus (simp [Act.eval, Value.cells]; done)); (exact rfl); clear hK K; clear H; (try clear w2); revert w3; intro w2 H; simp [Act.eval, Value.cells, setL, List.getD] at H) | ((guard_target =~ wpList _ _ _ (Oper.mk _ (.alloc _) _ _ _ _ :: _) _ _; refine BigFrame.wpList_want rfl (fun K hK => ?_); refine o_alloc (z := ?_) rfl ?_ H rfl (fun w3 b2 he H2 => hK _ _ ?_); rotate_left 1; (focus (intro _; simp; with_reducible exact rfl))); clear hK K he; clear H; (try clear w2); revert w3; intro w2 H; simp [Act.eval, Value.cells, setL, List.getD] at H; (clear tk0; rename Nat => b4)) | (guard_target =~ wpList _ _ _ (Oper.mk _ (.lookup _ _ _ false) _ _ _ _ :: _) _ _; refine BigFrame.wpList_want rfl (fun K hK => ?_); refine o_metGet (m := ?_) rfl rfl rfl H ?_ (hK _ _ ?_); rotate_left 1; (repeat first | exact .head _ | apply List.Mem.tail); clear hK K)); simp only [Act.put, List.setIfInBounds_toArray, List.set_cons_succ, List.set_cons_zero]))
        go_ret
        exact ⟨ret_b (by rw [← HV.out, right_v vs es hjl (by rw [HO.out]; rfl)]), H.below⟩
      · have tk0 : True := trivial
        go_wp2_with (first
          | (go_at_call 55; (with_reducible refine (hin _).mono ?_); rintro e w3 ⟨rfl, hb⟩; replace H := H.ext hb; clear hb; dsimp only)
          | (guard_target =~ wpList _ _ _ (_ :: _) _ _; (first | (guard_target =~ wpList _ _ _ (Oper.mk _ (.load _ _) _ _ _ _ :: _) _ _; refine BigFrame.wpList_want rfl (fun K hK => ?_); (first | (refine o_loadPt (n := ?_) (d := ?_) rfl rfl H ?_ ?_ ?_ (hK _ _ ?_); rotate_left 2; (repeat first | exact .head _ | apply List.Mem.tail); (focus (intro _; simp; done)); (focus (intro _; simp; done))) | (refine o_loadC (v := ?_) (row := ?_) rfl rfl H ?_ ?_ ?_ (hK _ _ ?_); rotate_left 2; (repeat first | exact .head _ | apply List.Mem.tail); (exact rfl); (focus (intro _; simp; done))) | (refine o_loadN (cs := ?_) (r := ?_) rfl rfl H ?_ ?_ ?_ ?_ (hK _ _ ?_); rotate_left 2; (with_reducible assumption); (repeat first | exact .head _ | apply List.Mem.tail); (focus (intro _; simp; done)); (focus (intro _; simp; done)))); clear hK K) | (guard_target =~ wpList _ _ _ (Oper.mk _ (.store _ _ _) _ _ _ _ :: _) _ _; refine BigFrame.wpList_want rfl (fun K hK => ?_); refine o_store (l' := ?_) (row := ?_) rfl rfl H rfl ?_ ?_ ?_ ?_ (fun w3 H2 => hK _ _ ?_); rotate_left 2; (exact r0); (focus (intro _; simp [Act.eval, Value.cells]; done)); (focus (simp [Act.eval, Value.cells]; done)); (exact rfl); clear hK K; clear H; (try clear w2); revert w3; intro w2 H; simp [Act.eval, Value.cells, setL, List.getD] at H) | ((guard_target =~ wpList _ _ _ (Oper.mk _ (.alloc _) _ _ _ _ :: _) _ _; refine BigFrame.wpList_want rfl (fun K hK => ?_); refine o_alloc (z := ?_) rfl ?_ H rfl (fun w3 b2 he H2 => hK _ _ ?_); rotate_left 1; (focus (intro _; simp; with_reducible exact rfl))); clear hK K he; clear H; (try clear w2); revert w3; intro w2 H; simp [Act.eval, Value.cells, setL, List.getD] at H; (clear tk0; rename Nat => b4)) | (guard_target =~ wpList _ _ _ (Oper.mk _ (.mapUpdate _ _ _ _) _ _ _ _ :: _) _ _; refine BigFrame.wpList_want rfl (fun K hK => ?_); refine o_atSet (l0 := ?_) (m := ?_) rfl rfl rfl rfl H ?_ (fun w3 H2 => hK _ _ ?_); rotate_left 2; (focus (intro _; (exact r2))); clear hK K; clear H; (try clear w2); revert w3; intro w2 H) | (guard_target =~ wpList _ _ _ (Oper.mk _ (.lookup _ _ _ false) _ _ _ _ :: _) _ _; refine BigFrame.wpList_want rfl (fun K hK => ?_); refine o_metGet (m := ?_) rfl rfl rfl H ?_ (hK _ _ ?_); rotate_left 1; (repeat first | exact .head _ | apply List.Mem.tail); clear hK K) | (guard_target =~ wpList _ _ _ (Oper.mk _ (.mapUpdate _ _ _ _) _ _ _ _ :: _) _ _; refine BigFrame.wpList_want rfl (fun K hK => ?_); refine o_metSet (l0 := ?_) (m := ?_) rfl rfl rfl rfl H ?_ (fun w3 H2 => hK _ _ ?_); rotate_left 2; (focus (intro _; (exact r1))); clear hK K; clear H; (try clear w2); revert w3; intro w2 H)); simp only [Act.put, List.setIfInBounds_toArray, List.set_cons_succ, List.set_cons_zero]))
        go_roundg (gk - 1)
        case rel =>
          have e1 : vs.length - (gk - 1) = j + 1 := by have := HJ.out; omega
          exact ⟨by omega, by have := HJ.out; congr 1; omega, by rw [e1, HC.out], by rw [e1]; exact range_step HT.out (by rw [HO.out]; rfl), by rw [e1, HA.out, HB.out]; exact H.tail⟩
        case measure => omega
    · obtain rfl : gk = 0 := by omega
      rw [Nat.sub_zero, List.take_length] at H
      rw [Nat.sub_zero] at HT
      have eok : ∀ j i x y, es[j]? = some ⟨i, x, y⟩ → eOK vs es j = !(decide (i ≤ lastE (es.take j)) || (!(atM vs x).isSome || (!(atM vs y).isSome || (x == y || ((pairM (es.take j) ⟨min x y, max x y⟩).getD false || ((vs.any fun v => onB v.p ((atM vs x).getD zP) ((atM vs y).getD zP)) || crossB vs (es.take j) ((atM vs x).getD zP) ((atM vs y).getD zP))))))) := by
        intro j i x y h; unfold eOK; rw [h]; rfl
      generalize atM vs = mm at H eok
      have EOK := Lib.hid eok
      clear eok
      have tk0 : True := trivial
      go_wp2_with (guard_target =~ wpList _ _ _ (_ :: _) _ _; (first | (guard_target =~ wpList _ _ _ (Oper.mk _ (.load _ _) _ _ _ _ :: _) _ _; refine BigFrame.wpList_want rfl (fun K hK => ?_); (refine o_loadC (v := ?_) (row := ?_) rfl rfl H ?_ ?_ ?_ (hK _ _ ?_); rotate_left 2; (repeat first | exact .head _ | apply List.Mem.tail); (exact rfl); (focus (intro _; simp; done))); clear hK K) | (guard_target =~ wpList _ _ _ (Oper.mk _ (.makeMap _ _) _ _ _ _ :: _) _ _; refine BigFrame.wpList_want rfl (fun K hK => ?_); refine o_pairMake rfl H (fun w3 b2 he H2 => hK _ _ ?_); clear hK K he; clear H; (try clear w2); revert w3; intro w2 H; (clear tk0; rename Nat => b5))); simp only [Act.put, List.setIfInBounds_toArray, List.set_cons_succ, List.set_cons_zero])
      go_loopg [65, 5] es.length (fun k i d wr => k ≤ es.length ∧ i = .int .i64 ((es.length - k : Nat) : Int) ∧ d = .int .i64 (lastE (es.take (es.length - k))) ∧ (List.range (es.length - k)).all (eOK vs es) = true ∧ Own w.heap.size w wr [mHas b5 (pairM (es.take (es.length - k))), mHas b3 (metM vs), mAt b2 mm, .cells b1 [.slice A vs.length c, .slice A2 es.length c2], .rd A2 b9 o9 (eR es), .rd A b0 o0 (vR vs)])
      case atStart => exact ⟨Nat.le_refl _, by simp, by simp [lastE], by simp, by rw [Nat.sub_self]; exact H⟩
      case round =>
        clear H
        obtain ⟨hk2, rfl, rfl, ht2, H⟩ := hrel
        have HT2 := Lib.hid ht2
        clear ht2
        by_cases hlt2 : 0 < gk
        · obtain ⟨j, hj⟩ : ∃ j, es.length - gk = j := ⟨_, rfl⟩
          have hjl : j < es.length := by omega
          rw [hj] at HT2 H ⊢
          obtain ⟨i, x, y, he⟩ := eg_at es hjl
          obtain rfl := H.rdAddr m4 (eR_pos he)
          have hp := at_e (A := some ⟨b9, o9, none⟩) (b := b9) (off := o9) he
          have hst2 := pairM_step he
          have hst3 := lastE_step he
          have hok := EOK.out _ _ _ _ he
          have hend := ends_any i x y
          have hon := fun F w h => onWay_any vs A (some ⟨b9, o9, none⟩) vs.length es.length c c2 F ((mm x).getD zP).x ((mm x).getD zP).y ((mm y).getD zP).x ((mm y).getD zP).y w rfl h hl
          have hcr := fun F w h h2 => crossed_any vs (es.take j) A (some ⟨b9, o9, none⟩) vs.length j c c2 F ((mm x).getD zP).x ((mm x).getD zP).y ((mm y).getD zP).x ((mm y).getD zP).y w rfl (by rw [List.length_take]; omega) h h2 hl (by omega)
          have eh : ∀ (w : World) (F : Nat → Prop), Sl F w (some ⟨b9, o9, none⟩) (eR es) → Sl F w (some ⟨b9, o9, none⟩) (eR (es.take j)) := fun w F h => by rw [eR_take]; exact h.take _
          generalize pairM (es.take j) = pm at H hst2 hok
          generalize lastE (es.take j) = d at hok ⊢
          generalize hq : (mm x).getD zP = q1 at hok hon hcr
          obtain ⟨qx, qy⟩ := q1
          generalize hq2 : (mm y).getD zP = q2 at hok hon hcr
          obtain ⟨rx, ry⟩ := q2
          obtain ⟨v1, hv1⟩ : ∃ v, decide (i ≤ d) = v := ⟨_, rfl⟩
          obtain ⟨v2, hv2⟩ : ∃ v, (mm x).isSome = v := ⟨_, rfl⟩
          obtain ⟨v3, hv3⟩ : ∃ v, (mm y).isSome = v := ⟨_, rfl⟩
          obtain ⟨v4, hv4⟩ : ∃ v, (x == y) = v := ⟨_, rfl⟩
          obtain ⟨v5, hv5⟩ : ∃ v, (pm ⟨min x y, max x y⟩).getD false = v := ⟨_, rfl⟩
          obtain ⟨v6, hv6⟩ : ∃ v, (vs.any fun v => onB v.p ⟨qx, qy⟩ ⟨rx, ry⟩) = v := ⟨_, rfl⟩
          obtain ⟨v7, hv7⟩ : ∃ v, crossB vs (es.take j) ⟨qx, qy⟩ ⟨rx, ry⟩ = v := ⟨_, rfl⟩
          rw [hv1, hv2, hv3, hv4, hv5, hv6, hv7] at hok
          simp only [hv6] at hon
          simp only [hv7] at hcr
          generalize min x y = mi at hend hv5 hst2
          generalize max x y = ma at hend hv5 hst2
          have HB := Lib.hid hst2
          have HC := Lib.hid hst3
          have HJ := Lib.hid hj
          have HO := Lib.hid hok
          clear he hst2 hst3 hj hok hv6 hv7
          cases v1
          rotate_left 1
          · have tk0 : True := trivial
            have tk1 : True := trivial
            have tk2 : True := trivial
            go_wp2_with (first
              | go_big_skip
              | (guard_target =~ wpList _ _ _ (_ :: _) _ _; (first | (guard_target =~ wpList _ _ _ (Oper.mk _ (.load _ _) _ _ _ _ :: _) _ _; refine BigFrame.wpList_want rfl (fun K hK => ?_); (first | (refine o_loadC (v := ?_) (row := ?_) rfl rfl H ?_ ?_ ?_ (hK _ _ ?_); rotate_left 2; (repeat first | exact .head _ | apply List.Mem.tail); (exact rfl); (focus (intro _; simp [hq, hq2]; done))) | (refine o_loadN (cs := ?_) (r := ?_) rfl rfl H ?_ ?_ ?_ ?_ (hK _ _ ?_); rotate_left 2; (with_reducible assumption); (repeat first | exact .head _ | apply List.Mem.tail); (focus (intro _; simp [hq, hq2]; done)); (focus (intro _; simp [hq, hq2]; done)))); clear hK K) | (guard_target =~ wpList _ _ _ (Oper.mk _ (.store _ _ _) _ _ _ _ :: _) _ _; refine BigFrame.wpList_want rfl (fun K hK => ?_); refine o_store (l' := ?_) (row := ?_) rfl rfl H rfl ?_ ?_ ?_ ?_ (fun w3 H2 => hK _ _ ?_); rotate_left 2; (exact r0); (focus (intro _; (simp [Act.eval, Value.cells, List.getD, hq, hq2]; done))); (focus (simp [Act.eval, Value.cells, List.getD, hq, hq2]; done)); (exact rfl); clear hK K; clear H; (try clear w2); revert w3; intro w2 H; (try simp [Act.eval, List.getD, hq, hq2] at H); (try simp [Value.cells, setL, hq, hq2] at H)) | ((guard_target =~ wpList _ _ _ (Oper.mk _ (.alloc _) _ _ _ _ :: _) _ _; refine BigFrame.wpList_want rfl (fun K hK => ?_); refine o_alloc (z := ?_) rfl ?_ H rfl (fun w3 b2 he H2 => hK _ _ ?_); rotate_left 1; (focus (intro _; simp; with_reducible exact rfl))); clear hK K he; clear H; (try clear w2); revert w3; intro w2 H; (try simp [Act.eval, List.getD, hq, hq2] at H); (try simp [Value.cells, setL, hq, hq2] at H); (first | (clear tk0; rename Nat => b6) | (clear tk1; rename Nat => b7) | (clear tk2; rename Nat => b8))) | (guard_target =~ wpList _ _ _ (Oper.mk _ (.lookup _ _ _ true) _ _ _ _ :: _) _ _; refine BigFrame.wpList_want rfl (fun K hK => ?_); refine o_atOk (m := ?_) rfl rfl rfl H ?_ (hK _ _ ?_); rotate_left 1; (repeat first | exact .head _ | apply List.Mem.tail); clear hK K)); simp only [Act.put, List.setIfInBounds_toArray, List.set_cons_succ, List.set_cons_zero, hq, hq2]))
            go_ret
            exact ⟨ret_b (by rw [← HV.out, right_e vs es hjl (by rw [HO.out]; rfl)]), H.below⟩
          cases v2
          · have tk0 : True := trivial
            have tk1 : True := trivial
            have tk2 : True := trivial
            go_wp2_with (first
              | go_big_skip
              | (guard_target =~ wpList _ _ _ (_ :: _) _ _; (first | (guard_target =~ wpList _ _ _ (Oper.mk _ (.load _ _) _ _ _ _ :: _) _ _; refine BigFrame.wpList_want rfl (fun K hK => ?_); (first | (refine o_loadC (v := ?_) (row := ?_) rfl rfl H ?_ ?_ ?_ (hK _ _ ?_); rotate_left 2; (repeat first | exact .head _ | apply List.Mem.tail); (exact rfl); (focus (intro _; simp [hq, hq2]; done))) | (refine o_loadN (cs := ?_) (r := ?_) rfl rfl H ?_ ?_ ?_ ?_ (hK _ _ ?_); rotate_left 2; (with_reducible assumption); (repeat first | exact .head _ | apply List.Mem.tail); (focus (intro _; simp [hq, hq2]; done)); (focus (intro _; simp [hq, hq2]; done)))); clear hK K) | (guard_target =~ wpList _ _ _ (Oper.mk _ (.store _ _ _) _ _ _ _ :: _) _ _; refine BigFrame.wpList_want rfl (fun K hK => ?_); refine o_store (l' := ?_) (row := ?_) rfl rfl H rfl ?_ ?_ ?_ ?_ (fun w3 H2 => hK _ _ ?_); rotate_left 2; (exact r0); (focus (intro _; (simp [Act.eval, Value.cells, List.getD, hq, hq2]; done))); (focus (simp [Act.eval, Value.cells, List.getD, hq, hq2]; done)); (exact rfl); clear hK K; clear H; (try clear w2); revert w3; intro w2 H; (try simp [Act.eval, List.getD, hq, hq2] at H); (try simp [Value.cells, setL, hq, hq2] at H)) | ((guard_target =~ wpList _ _ _ (Oper.mk _ (.alloc _) _ _ _ _ :: _) _ _; refine BigFrame.wpList_want rfl (fun K hK => ?_); refine o_alloc (z := ?_) rfl ?_ H rfl (fun w3 b2 he H2 => hK _ _ ?_); rotate_left 1; (focus (intro _; simp; with_reducible exact rfl))); clear hK K he; clear H; (try clear w2); revert w3; intro w2 H; (try simp [Act.eval, List.getD, hq, hq2] at H); (try simp [Value.cells, setL, hq, hq2] at H); (first | (clear tk0; rename Nat => b6) | (clear tk1; rename Nat => b7) | (clear tk2; rename Nat => b8))) | (guard_target =~ wpList _ _ _ (Oper.mk _ (.lookup _ _ _ true) _ _ _ _ :: _) _ _; refine BigFrame.wpList_want rfl (fun K hK => ?_); refine o_atOk (m := ?_) rfl rfl rfl H ?_ (hK _ _ ?_); rotate_left 1; (repeat first | exact .head _ | apply List.Mem.tail); clear hK K)); simp only [Act.put, List.setIfInBounds_toArray, List.set_cons_succ, List.set_cons_zero, hq, hq2]))
            go_ret
            exact ⟨ret_b (by rw [← HV.out, right_e vs es hjl (by rw [HO.out]; rfl)]), H.below⟩
          cases v3
          · have tk0 : True := trivial
            have tk1 : True := trivial
            have tk2 : True := trivial
            go_wp2_with (first
              | go_big_skip
              | (guard_target =~ wpList _ _ _ (_ :: _) _ _; (first | (guard_target =~ wpList _ _ _ (Oper.mk _ (.load _ _) _ _ _ _ :: _) _ _; refine BigFrame.wpList_want rfl (fun K hK => ?_); (first | (refine o_loadC (v := ?_) (row := ?_) rfl rfl H ?_ ?_ ?_ (hK _ _ ?_); rotate_left 2; (repeat first | exact .head _ | apply List.Mem.tail); (exact rfl); (focus (intro _; simp [hq, hq2]; done))) | (refine o_loadN (cs := ?_) (r := ?_) rfl rfl H ?_ ?_ ?_ ?_ (hK _ _ ?_); rotate_left 2; (with_reducible assumption); (repeat first | exact .head _ | apply List.Mem.tail); (focus (intro _; simp [hq, hq2]; done)); (focus (intro _; simp [hq, hq2]; done)))); clear hK K) | (guard_target =~ wpList _ _ _ (Oper.mk _ (.store _ _ _) _ _ _ _ :: _) _ _; refine BigFrame.wpList_want rfl (fun K hK => ?_); refine o_store (l' := ?_) (row := ?_) rfl rfl H rfl ?_ ?_ ?_ ?_ (fun w3 H2 => hK _ _ ?_); rotate_left 2; (exact r0); (focus (intro _; (simp [Act.eval, Value.cells, List.getD, hq, hq2]; done))); (focus (simp [Act.eval, Value.cells, List.getD, hq, hq2]; done)); (exact rfl); clear hK K; clear H; (try clear w2); revert w3; intro w2 H; (try simp [Act.eval, List.getD, hq, hq2] at H); (try simp [Value.cells, setL, hq, hq2] at H)) | ((guard_target =~ wpList _ _ _ (Oper.mk _ (.alloc _) _ _ _ _ :: _) _ _; refine BigFrame.wpList_want rfl (fun K hK => ?_); refine o_alloc (z := ?_) rfl ?_ H rfl (fun w3 b2 he H2 => hK _ _ ?_); rotate_left 1; (focus (intro _; simp; with_reducible exact rfl))); clear hK K he; clear H; (try clear w2); revert w3; intro w2 H; (try simp [Act.eval, List.getD, hq, hq2] at H); (try simp [Value.cells, setL, hq, hq2] at H); (first | (clear tk0; rename Nat => b6) | (clear tk1; rename Nat => b7) | (clear tk2; rename Nat => b8))) | (guard_target =~ wpList _ _ _ (Oper.mk _ (.lookup _ _ _ true) _ _ _ _ :: _) _ _; refine BigFrame.wpList_want rfl (fun K hK => ?_); refine o_atOk (m := ?_) rfl rfl rfl H ?_ (hK _ _ ?_); rotate_left 1; (repeat first | exact .head _ | apply List.Mem.tail); clear hK K)); simp only [Act.put, List.setIfInBounds_toArray, List.set_cons_succ, List.set_cons_zero, hq, hq2]))
            go_ret
            exact ⟨ret_b (by rw [← HV.out, right_e vs es hjl (by rw [HO.out]; rfl)]), H.below⟩
          cases v4
          rotate_left 1
          · have tk0 : True := trivial
            have tk1 : True := trivial
            have tk2 : True := trivial
            go_wp2_with (first
              | go_big_skip
              | (guard_target =~ wpList _ _ _ (_ :: _) _ _; (first | (guard_target =~ wpList _ _ _ (Oper.mk _ (.load _ _) _ _ _ _ :: _) _ _; refine BigFrame.wpList_want rfl (fun K hK => ?_); (first | (refine o_loadC (v := ?_) (row := ?_) rfl rfl H ?_ ?_ ?_ (hK _ _ ?_); rotate_left 2; (repeat first | exact .head _ | apply List.Mem.tail); (exact rfl); (focus (intro _; simp [hq, hq2]; done))) | (refine o_loadN (cs := ?_) (r := ?_) rfl rfl H ?_ ?_ ?_ ?_ (hK _ _ ?_); rotate_left 2; (with_reducible assumption); (repeat first | exact .head _ | apply List.Mem.tail); (focus (intro _; simp [hq, hq2]; done)); (focus (intro _; simp [hq, hq2]; done)))); clear hK K) | (guard_target =~ wpList _ _ _ (Oper.mk _ (.store _ _ _) _ _ _ _ :: _) _ _; refine BigFrame.wpList_want rfl (fun K hK => ?_); refine o_store (l' := ?_) (row := ?_) rfl rfl H rfl ?_ ?_ ?_ ?_ (fun w3 H2 => hK _ _ ?_); rotate_left 2; (exact r0); (focus (intro _; (simp [Act.eval, Value.cells, List.getD, hq, hq2]; done))); (focus (simp [Act.eval, Value.cells, List.getD, hq, hq2]; done)); (exact rfl); clear hK K; clear H; (try clear w2); revert w3; intro w2 H; (try simp [Act.eval, List.getD, hq, hq2] at H); (try simp [Value.cells, setL, hq, hq2] at H)) | ((guard_target =~ wpList _ _ _ (Oper.mk _ (.alloc _) _ _ _ _ :: _) _ _; refine BigFrame.wpList_want rfl (fun K hK => ?_); refine o_alloc (z := ?_) rfl ?_ H rfl (fun w3 b2 he H2 => hK _ _ ?_); rotate_left 1; (focus (intro _; simp; with_reducible exact rfl))); clear hK K he; clear H; (try clear w2); revert w3; intro w2 H; (try simp [Act.eval, List.getD, hq, hq2] at H); (try simp [Value.cells, setL, hq, hq2] at H); (first | (clear tk0; rename Nat => b6) | (clear tk1; rename Nat => b7) | (clear tk2; rename Nat => b8))) | (guard_target =~ wpList _ _ _ (Oper.mk _ (.lookup _ _ _ true) _ _ _ _ :: _) _ _; refine BigFrame.wpList_want rfl (fun K hK => ?_); refine o_atOk (m := ?_) rfl rfl rfl H ?_ (hK _ _ ?_); rotate_left 1; (repeat first | exact .head _ | apply List.Mem.tail); clear hK K)); simp only [Act.put, List.setIfInBounds_toArray, List.set_cons_succ, List.set_cons_zero, hq, hq2]))
            go_ret
            exact ⟨ret_b (by rw [← HV.out, right_e vs es hjl (by rw [HO.out]; rfl)]), H.below⟩
          cases v5
          rotate_left 1
          · have tk0 : True := trivial
            have tk1 : True := trivial
            have tk2 : True := trivial
            go_wp2_with (first
              | go_big_skip
              | (go_at_call 56; (with_reducible refine (hend _).mono ?_); rintro e w3 ⟨rfl, hb⟩; replace H := H.ext hb; clear hb; dsimp only; (skip))
              | (guard_target =~ wpList _ _ _ (_ :: _) _ _; (first | (guard_target =~ wpList _ _ _ (Oper.mk _ (.load _ _) _ _ _ _ :: _) _ _; refine BigFrame.wpList_want rfl (fun K hK => ?_); (first | (refine o_loadC (v := ?_) (row := ?_) rfl rfl H ?_ ?_ ?_ (hK _ _ ?_); rotate_left 2; (repeat first | exact .head _ | apply List.Mem.tail); (exact rfl); (focus (intro _; simp [hq, hq2]; done))) | (refine o_loadN (cs := ?_) (r := ?_) rfl rfl H ?_ ?_ ?_ ?_ (hK _ _ ?_); rotate_left 2; (with_reducible assumption); (repeat first | exact .head _ | apply List.Mem.tail); (focus (intro _; simp [hq, hq2]; done)); (focus (intro _; simp [hq, hq2]; done))) | (refine o_loadNC (row := ?_) rfl rfl H ?_ ?_ ?_ (hK _ _ ?_); rotate_left 1; (repeat first | exact .head _ | apply List.Mem.tail); (focus (intro _; simp [hq, hq2]; done)); (focus (intro _; simp [hq, hq2]; done)))); clear hK K) | (guard_target =~ wpList _ _ _ (Oper.mk _ (.store _ _ _) _ _ _ _ :: _) _ _; refine BigFrame.wpList_want rfl (fun K hK => ?_); refine o_store (l' := ?_) (row := ?_) rfl rfl H rfl ?_ ?_ ?_ ?_ (fun w3 H2 => hK _ _ ?_); rotate_left 2; (exact r0); (focus (intro _; (simp [Act.eval, Value.cells, List.getD, hq, hq2]; done))); (focus (simp [Act.eval, Value.cells, List.getD, hq, hq2]; done)); (exact rfl); clear hK K; clear H; (try clear w2); revert w3; intro w2 H; (try simp [Act.eval, List.getD, hq, hq2] at H); (try simp [Value.cells, setL, hq, hq2] at H)) | ((guard_target =~ wpList _ _ _ (Oper.mk _ (.alloc _) _ _ _ _ :: _) _ _; refine BigFrame.wpList_want rfl (fun K hK => ?_); refine o_alloc (z := ?_) rfl ?_ H rfl (fun w3 b2 he H2 => hK _ _ ?_); rotate_left 1; (focus (intro _; simp; with_reducible exact rfl))); clear hK K he; clear H; (try clear w2); revert w3; intro w2 H; (try simp [Act.eval, List.getD, hq, hq2] at H); (try simp [Value.cells, setL, hq, hq2] at H); (first | (clear tk0; rename Nat => b6) | (clear tk1; rename Nat => b7) | (clear tk2; rename Nat => b8))) | (guard_target =~ wpList _ _ _ (Oper.mk _ (.lookup _ _ _ true) _ _ _ _ :: _) _ _; refine BigFrame.wpList_want rfl (fun K hK => ?_); refine o_atOk (m := ?_) rfl rfl rfl H ?_ (hK _ _ ?_); rotate_left 1; (repeat first | exact .head _ | apply List.Mem.tail); clear hK K) | (guard_target =~ wpList _ _ _ (Oper.mk _ (.lookup _ _ _ false) _ _ _ _ :: _) _ _; refine BigFrame.wpList_want rfl (fun K hK => ?_); refine o_pairGet (m := ?_) rfl rfl rfl H ?_ (hK _ _ ?_); rotate_left 1; (repeat first | exact .head _ | apply List.Mem.tail); clear hK K)); simp only [Act.put, List.setIfInBounds_toArray, List.set_cons_succ, List.set_cons_zero, hq, hq2]))
            go_ret
            exact ⟨ret_b (by rw [← HV.out, right_e vs es hjl (by rw [HO.out]; rfl)]), H.below⟩
          cases v6
          rotate_left 1
          · have tk0 : True := trivial
            have tk1 : True := trivial
            have tk2 : True := trivial
            go_wp2_with (first
              | (go_at_call 56; (with_reducible refine (hend _).mono ?_); rintro e w3 ⟨rfl, hb⟩; replace H := H.ext hb; clear hb; dsimp only; (skip))
              | (go_at_call 57; (with_reducible refine (hon _ _ (by exact H.giveRd m8 f0)).mono ?_); rintro e w3 ⟨rfl, hb⟩; replace H := H.ext hb; clear hb; dsimp only; (skip))
              | (guard_target =~ wpList _ _ _ (_ :: _) _ _; (first | (guard_target =~ wpList _ _ _ (Oper.mk _ (.load _ _) _ _ _ _ :: _) _ _; refine BigFrame.wpList_want rfl (fun K hK => ?_); (first | (refine o_loadC (v := ?_) (row := ?_) rfl rfl H ?_ ?_ ?_ (hK _ _ ?_); rotate_left 2; (repeat first | exact .head _ | apply List.Mem.tail); (exact rfl); (focus (intro _; simp [hq, hq2]; done))) | (refine o_loadN (cs := ?_) (r := ?_) rfl rfl H ?_ ?_ ?_ ?_ (hK _ _ ?_); rotate_left 2; (with_reducible assumption); (repeat first | exact .head _ | apply List.Mem.tail); (focus (intro _; simp [hq, hq2]; done)); (focus (intro _; simp [hq, hq2]; done))) | (refine o_loadNC (row := ?_) rfl rfl H ?_ ?_ ?_ (hK _ _ ?_); rotate_left 1; (repeat first | exact .head _ | apply List.Mem.tail); (focus (intro _; simp [hq, hq2]; done)); (focus (intro _; simp [hq, hq2]; done)))); clear hK K) | (guard_target =~ wpList _ _ _ (Oper.mk _ (.store _ _ _) _ _ _ _ :: _) _ _; refine BigFrame.wpList_want rfl (fun K hK => ?_); refine o_store (l' := ?_) (row := ?_) rfl rfl H rfl ?_ ?_ ?_ ?_ (fun w3 H2 => hK _ _ ?_); rotate_left 2; (exact r0); (focus (intro _; (simp [Act.eval, Value.cells, List.getD, hq, hq2]; done))); (focus (simp [Act.eval, Value.cells, List.getD, hq, hq2]; done)); (exact rfl); clear hK K; clear H; (try clear w2); revert w3; intro w2 H; (try simp [Act.eval, List.getD, hq, hq2] at H); (try simp [Value.cells, setL, hq, hq2] at H)) | ((guard_target =~ wpList _ _ _ (Oper.mk _ (.alloc _) _ _ _ _ :: _) _ _; refine BigFrame.wpList_want rfl (fun K hK => ?_); refine o_alloc (z := ?_) rfl ?_ H rfl (fun w3 b2 he H2 => hK _ _ ?_); rotate_left 1; (focus (intro _; simp; with_reducible exact rfl))); clear hK K he; clear H; (try clear w2); revert w3; intro w2 H; (try simp [Act.eval, List.getD, hq, hq2] at H); (try simp [Value.cells, setL, hq, hq2] at H); (first | (clear tk0; rename Nat => b6) | (clear tk1; rename Nat => b7) | (clear tk2; rename Nat => b8))) | (guard_target =~ wpList _ _ _ (Oper.mk _ (.lookup _ _ _ true) _ _ _ _ :: _) _ _; refine BigFrame.wpList_want rfl (fun K hK => ?_); refine o_atOk (m := ?_) rfl rfl rfl H ?_ (hK _ _ ?_); rotate_left 1; (repeat first | exact .head _ | apply List.Mem.tail); clear hK K) | (guard_target =~ wpList _ _ _ (Oper.mk _ (.lookup _ _ _ false) _ _ _ _ :: _) _ _; refine BigFrame.wpList_want rfl (fun K hK => ?_); refine o_pairGet (m := ?_) rfl rfl rfl H ?_ (hK _ _ ?_); rotate_left 1; (repeat first | exact .head _ | apply List.Mem.tail); clear hK K)); simp only [Act.put, List.setIfInBounds_toArray, List.set_cons_succ, List.set_cons_zero, hq, hq2]))
            go_ret
            exact ⟨ret_b (by rw [← HV.out, right_e vs es hjl (by rw [HO.out]; rfl)]), H.below⟩
          cases v7
          rotate_left 1
          · have tk0 : True := trivial
            have tk1 : True := trivial
            have tk2 : True := trivial
            go_wp2_with (first
              | (guard_target =~ Code.wp _ (Code.region 26 _ true) _ _ _; refine region_tree0 26 (G := True) (.q 0 (.q 1 (.q 2 (.q 3 (.q 4 (.q 5 (.q 6 (.q 7 (.q 8 (.e 9 .nil)))))))))) (by kernel_rfl) (by intro c a d v w h; cases d <;> exact h) (by kernel_rfl) H ⟨trivial⟩ (fun _ w3 H2 => ?_); (clear H; (try clear w2); revert w3; intro w2 H))
              | (go_at_call 56; (with_reducible refine (hend _).mono ?_); rintro e w3 ⟨rfl, hb⟩; replace H := H.ext hb; clear hb; dsimp only; (skip))
              | (go_at_call 57; (with_reducible refine (hon _ _ (by exact H.giveRd m8 f0)).mono ?_); rintro e w3 ⟨rfl, hb⟩; replace H := H.ext hb; clear hb; dsimp only; (skip))
              | (go_at_call 58; (with_reducible refine (hcr _ _ (by exact H.giveRd m8 f0) (eh _ _ (by exact H.giveRd m7 f9))).mono ?_); rintro e w3 ⟨rfl, hb⟩; replace H := H.ext hb; clear hb; dsimp only; (refine hK _ _ ⟨_, H, by repeat first | exact .here | apply Suf.there⟩ ?_; clear hK K; (try simp only [Act.put, List.setIfInBounds_toArray, List.set_cons_succ, List.set_cons_zero, hq, hq2])))
              | (guard_target =~ wpList _ _ _ (_ :: _) _ _; (first | (guard_target =~ wpList _ _ _ (Oper.mk _ (.load _ _) _ _ _ _ :: _) _ _; refine BigFrame.wpList_want rfl (fun K hK => ?_); (first | (refine o_loadC (v := ?_) (row := ?_) rfl rfl H ?_ ?_ ?_ (hK _ _ ?_); rotate_left 2; (repeat first | exact .head _ | apply List.Mem.tail); (exact rfl); (focus (intro _; simp [hq, hq2]; done))) | (refine o_loadN (cs := ?_) (r := ?_) rfl rfl H ?_ ?_ ?_ ?_ (hK _ _ ?_); rotate_left 2; (with_reducible assumption); (repeat first | exact .head _ | apply List.Mem.tail); (focus (intro _; simp [hq, hq2]; done)); (focus (intro _; simp [hq, hq2]; done))) | (refine o_loadNC (row := ?_) rfl rfl H ?_ ?_ ?_ (hK _ _ ?_); rotate_left 1; (repeat first | exact .head _ | apply List.Mem.tail); (focus (intro _; simp [hq, hq2]; done)); (focus (intro _; simp [hq, hq2]; done)))); clear hK K) | (guard_target =~ wpList _ _ _ (Oper.mk _ (.store _ _ _) _ _ _ _ :: _) _ _; refine BigFrame.wpList_want rfl (fun K hK => ?_); refine o_store (l' := ?_) (row := ?_) rfl rfl H rfl ?_ ?_ ?_ ?_ (fun w3 H2 => hK _ _ ?_); rotate_left 2; (exact r0); (focus (intro _; (simp [Act.eval, Value.cells, List.getD, hq, hq2]; done))); (focus (simp [Act.eval, Value.cells, List.getD, hq, hq2]; done)); (exact rfl); clear hK K; clear H; (try clear w2); revert w3; intro w2 H; (try simp [Act.eval, List.getD, hq, hq2] at H); (try simp [Value.cells, setL, hq, hq2] at H)) | ((guard_target =~ wpList _ _ _ (Oper.mk _ (.alloc _) _ _ _ _ :: _) _ _; refine BigFrame.wpList_want rfl (fun K hK => ?_); refine o_alloc (z := ?_) rfl ?_ H rfl (fun w3 b2 he H2 => hK _ _ ?_); rotate_left 1; (focus (intro _; simp; with_reducible exact rfl))); clear hK K he; clear H; (try clear w2); revert w3; intro w2 H; (try simp [Act.eval, List.getD, hq, hq2] at H); (try simp [Value.cells, setL, hq, hq2] at H); (first | (clear tk0; rename Nat => b6) | (clear tk1; rename Nat => b7) | (clear tk2; rename Nat => b8))) | (guard_target =~ wpList _ _ _ (Oper.mk _ (.lookup _ _ _ true) _ _ _ _ :: _) _ _; refine BigFrame.wpList_want rfl (fun K hK => ?_); refine o_atOk (m := ?_) rfl rfl rfl H ?_ (hK _ _ ?_); rotate_left 1; (repeat first | exact .head _ | apply List.Mem.tail); clear hK K) | (guard_target =~ wpList _ _ _ (Oper.mk _ (.lookup _ _ _ false) _ _ _ _ :: _) _ _; refine BigFrame.wpList_want rfl (fun K hK => ?_); refine o_pairGet (m := ?_) rfl rfl rfl H ?_ (hK _ _ ?_); rotate_left 1; (repeat first | exact .head _ | apply List.Mem.tail); clear hK K) | (guard_target =~ wpList _ _ _ (Oper.mk _ (.mapUpdate _ _ _ _) _ _ _ _ :: _) _ _; refine BigFrame.wpList_want rfl (fun K hK => ?_); refine o_pairSet (l0 := ?_) (m := ?_) rfl rfl rfl rfl H ?_ (fun w3 H2 => hK _ _ ?_); rotate_left 2; (focus (intro _; (exact r3))); clear hK K; clear H; (try clear w2); revert w3; intro w2 H)); simp only [Act.put, List.setIfInBounds_toArray, List.set_cons_succ, List.set_cons_zero, hq, hq2])
              | (guard_target =~ wpTree _ _ _ _ _ _ _; first | (guard_target =~ wpTree _ _ _ (Tr.q _ _) _ _ _; first | (refine tree_quiet ⟨_, H, by repeat first | exact .here | apply Suf.there⟩ rfl rfl rfl (fun K hK => ?_); simp only [List.getElem_toArray, List.getElem_cons_succ, List.getElem_cons_zero]; first | (guard_target =~ Oper.quiet _ (Oper.mk _ (.load _ _) _ _ _ _) _ _ _; (first | (refine q_loadC (v := ?_) (row := ?_) rfl rfl ?_ ?_ ?_ (hK _ ?_); rotate_left 2; (repeat first | exact .head _ | apply List.Mem.tail); (exact rfl); (focus (intro _; simp [hq, hq2]; done))) | (refine q_loadNC (row := ?_) rfl rfl ?_ ?_ ?_ (hK _ ?_); rotate_left 1; (repeat first | exact .head _ | apply List.Mem.tail); (focus (intro _; simp [hq, hq2]; done)); (focus (intro _; simp [hq, hq2]; done)))); clear hK K; simp only [Act.put, List.setIfInBounds_toArray, List.set_cons_succ, List.set_cons_zero, hq, hq2]) | (go_big_quiet_op; (try refine ⟨_, fun _ _ => rfl, ?_⟩); refine hK _ ?_; clear hK K)) | (refine tree_skip ⟨_, H, by repeat first | exact .here | apply Suf.there⟩ rfl rfl ?_; simp only [List.getElem_toArray, List.getElem_cons_succ, List.getElem_cons_zero, Act.put, List.setIfInBounds_toArray, List.set_cons_succ, List.set_cons_zero])) | (guard_target =~ wpTree _ _ _ (Tr.both _ _) _ _ _; refine tree_both ?_ ?_) | (guard_target =~ wpTree _ _ _ (Tr.e _ _) _ _ _; first | (refine tree_one rfl rfl (fun K hK => ?_); simp only [List.getElem_toArray, List.getElem_cons_succ, List.getElem_cons_zero]; first | ((first | fail); simp only [Act.put, List.setIfInBounds_toArray, List.set_cons_succ, List.set_cons_zero, hq, hq2]) | (go_big_op; (skip))) | (refine tree_one_skip ⟨_, H, by repeat first | exact .here | apply Suf.there⟩ rfl rfl ?_; simp only [List.getElem_toArray, List.getElem_cons_succ, List.getElem_cons_zero, Act.put, List.setIfInBounds_toArray, List.set_cons_succ, List.set_cons_zero])) | (guard_target =~ wpTree _ _ _ Tr.nil _ _ _; refine tree_nil ?_)))
            go_ret
            exact ⟨ret_b (by rw [← HV.out, right_e vs es hjl (by rw [HO.out]; rfl)]), H.below⟩
          · have tk0 : True := trivial
            have tk1 : True := trivial
            have tk2 : True := trivial
            go_wp2_with (first
              | (guard_target =~ Code.wp _ (Code.region 26 _ true) _ _ _; refine region_tree0 26 (G := True) (.q 0 (.q 1 (.q 2 (.q 3 (.q 4 (.q 5 (.q 6 (.q 7 (.q 8 (.e 9 .nil)))))))))) (by kernel_rfl) (by intro c a d v w h; cases d <;> exact h) (by kernel_rfl) H ⟨trivial⟩ (fun _ w3 H2 => ?_); (clear H; (try clear w2); revert w3; intro w2 H))
              | (go_at_call 56; (with_reducible refine (hend _).mono ?_); rintro e w3 ⟨rfl, hb⟩; replace H := H.ext hb; clear hb; dsimp only; (skip))
              | (go_at_call 57; (with_reducible refine (hon _ _ (by exact H.giveRd m8 f0)).mono ?_); rintro e w3 ⟨rfl, hb⟩; replace H := H.ext hb; clear hb; dsimp only; (skip))
              | (go_at_call 58; (with_reducible refine (hcr _ _ (by exact H.giveRd m8 f0) (eh _ _ (by exact H.giveRd m7 f9))).mono ?_); rintro e w3 ⟨rfl, hb⟩; replace H := H.ext hb; clear hb; dsimp only; (refine hK _ _ ⟨_, H, by repeat first | exact .here | apply Suf.there⟩ ?_; clear hK K; (try simp only [Act.put, List.setIfInBounds_toArray, List.set_cons_succ, List.set_cons_zero, hq, hq2])))
              | (guard_target =~ wpList _ _ _ (_ :: _) _ _; (first | (guard_target =~ wpList _ _ _ (Oper.mk _ (.load _ _) _ _ _ _ :: _) _ _; refine BigFrame.wpList_want rfl (fun K hK => ?_); (first | (refine o_loadC (v := ?_) (row := ?_) rfl rfl H ?_ ?_ ?_ (hK _ _ ?_); rotate_left 2; (repeat first | exact .head _ | apply List.Mem.tail); (exact rfl); (focus (intro _; simp [hq, hq2]; done))) | (refine o_loadN (cs := ?_) (r := ?_) rfl rfl H ?_ ?_ ?_ ?_ (hK _ _ ?_); rotate_left 2; (with_reducible assumption); (repeat first | exact .head _ | apply List.Mem.tail); (focus (intro _; simp [hq, hq2]; done)); (focus (intro _; simp [hq, hq2]; done))) | (refine o_loadNC (row := ?_) rfl rfl H ?_ ?_ ?_ (hK _ _ ?_); rotate_left 1; (repeat first | exact .head _ | apply List.Mem.tail); (focus (intro _; simp [hq, hq2]; done)); (focus (intro _; simp [hq, hq2]; done)))); clear hK K) | (guard_target =~ wpList _ _ _ (Oper.mk _ (.store _ _ _) _ _ _ _ :: _) _ _; refine BigFrame.wpList_want rfl (fun K hK => ?_); refine o_store (l' := ?_) (row := ?_) rfl rfl H rfl ?_ ?_ ?_ ?_ (fun w3 H2 => hK _ _ ?_); rotate_left 2; (exact r0); (focus (intro _; (simp [Act.eval, Value.cells, List.getD, hq, hq2]; done))); (focus (simp [Act.eval, Value.cells, List.getD, hq, hq2]; done)); (exact rfl); clear hK K; clear H; (try clear w2); revert w3; intro w2 H; (try simp [Act.eval, List.getD, hq, hq2] at H); (try simp [Value.cells, setL, hq, hq2] at H)) | ((guard_target =~ wpList _ _ _ (Oper.mk _ (.alloc _) _ _ _ _ :: _) _ _; refine BigFrame.wpList_want rfl (fun K hK => ?_); refine o_alloc (z := ?_) rfl ?_ H rfl (fun w3 b2 he H2 => hK _ _ ?_); rotate_left 1; (focus (intro _; simp; with_reducible exact rfl))); clear hK K he; clear H; (try clear w2); revert w3; intro w2 H; (try simp [Act.eval, List.getD, hq, hq2] at H); (try simp [Value.cells, setL, hq, hq2] at H); (first | (clear tk0; rename Nat => b6) | (clear tk1; rename Nat => b7) | (clear tk2; rename Nat => b8))) | (guard_target =~ wpList _ _ _ (Oper.mk _ (.lookup _ _ _ true) _ _ _ _ :: _) _ _; refine BigFrame.wpList_want rfl (fun K hK => ?_); refine o_atOk (m := ?_) rfl rfl rfl H ?_ (hK _ _ ?_); rotate_left 1; (repeat first | exact .head _ | apply List.Mem.tail); clear hK K) | (guard_target =~ wpList _ _ _ (Oper.mk _ (.lookup _ _ _ false) _ _ _ _ :: _) _ _; refine BigFrame.wpList_want rfl (fun K hK => ?_); refine o_pairGet (m := ?_) rfl rfl rfl H ?_ (hK _ _ ?_); rotate_left 1; (repeat first | exact .head _ | apply List.Mem.tail); clear hK K) | (guard_target =~ wpList _ _ _ (Oper.mk _ (.mapUpdate _ _ _ _) _ _ _ _ :: _) _ _; refine BigFrame.wpList_want rfl (fun K hK => ?_); refine o_pairSet (l0 := ?_) (m := ?_) rfl rfl rfl rfl H ?_ (fun w3 H2 => hK _ _ ?_); rotate_left 2; (focus (intro _; (exact r3))); clear hK K; clear H; (try clear w2); revert w3; intro w2 H)); simp only [Act.put, List.setIfInBounds_toArray, List.set_cons_succ, List.set_cons_zero, hq, hq2])
              | (guard_target =~ wpTree _ _ _ _ _ _ _; first | (guard_target =~ wpTree _ _ _ (Tr.q _ _) _ _ _; first | (refine tree_quiet ⟨_, H, by repeat first | exact .here | apply Suf.there⟩ rfl rfl rfl (fun K hK => ?_); simp only [List.getElem_toArray, List.getElem_cons_succ, List.getElem_cons_zero]; first | (guard_target =~ Oper.quiet _ (Oper.mk _ (.load _ _) _ _ _ _) _ _ _; (first | (refine q_loadC (v := ?_) (row := ?_) rfl rfl ?_ ?_ ?_ (hK _ ?_); rotate_left 2; (repeat first | exact .head _ | apply List.Mem.tail); (exact rfl); (focus (intro _; simp [hq, hq2]; done))) | (refine q_loadNC (row := ?_) rfl rfl ?_ ?_ ?_ (hK _ ?_); rotate_left 1; (repeat first | exact .head _ | apply List.Mem.tail); (focus (intro _; simp [hq, hq2]; done)); (focus (intro _; simp [hq, hq2]; done)))); clear hK K; simp only [Act.put, List.setIfInBounds_toArray, List.set_cons_succ, List.set_cons_zero, hq, hq2]) | (go_big_quiet_op; (try refine ⟨_, fun _ _ => rfl, ?_⟩); refine hK _ ?_; clear hK K)) | (refine tree_skip ⟨_, H, by repeat first | exact .here | apply Suf.there⟩ rfl rfl ?_; simp only [List.getElem_toArray, List.getElem_cons_succ, List.getElem_cons_zero, Act.put, List.setIfInBounds_toArray, List.set_cons_succ, List.set_cons_zero])) | (guard_target =~ wpTree _ _ _ (Tr.both _ _) _ _ _; refine tree_both ?_ ?_) | (guard_target =~ wpTree _ _ _ (Tr.e _ _) _ _ _; first | (refine tree_one rfl rfl (fun K hK => ?_); simp only [List.getElem_toArray, List.getElem_cons_succ, List.getElem_cons_zero]; first | ((first | fail); simp only [Act.put, List.setIfInBounds_toArray, List.set_cons_succ, List.set_cons_zero, hq, hq2]) | (go_big_op; (skip))) | (refine tree_one_skip ⟨_, H, by repeat first | exact .here | apply Suf.there⟩ rfl rfl ?_; simp only [List.getElem_toArray, List.getElem_cons_succ, List.getElem_cons_zero, Act.put, List.setIfInBounds_toArray, List.set_cons_succ, List.set_cons_zero])) | (guard_target =~ wpTree _ _ _ Tr.nil _ _ _; refine tree_nil ?_)))
            go_roundg (gk - 1)
            case rel =>
              have e1 : es.length - (gk - 1) = j + 1 := by have := HJ.out; omega
              refine ⟨by omega, by have := HJ.out; congr 1; omega, by rw [e1, HC.out], by rw [e1]; exact range_step HT2.out (by rw [HO.out]; rfl), ?_⟩
              rw [e1, HB.out]
              exact H.tail.tail.tail
            case measure => omega
        · obtain rfl : gk = 0 := by omega
          have tk0 : True := trivial
          go_wp2_with (first | fail)
          go_ret
          exact ⟨ret_b (by rw [← HV.out]; rw [Nat.sub_zero] at HT2; exact (right_y vs es (by omega) (by omega) HT.out HT2.out).symm), H.below⟩
end Go.Proofs.Ytlhmjhildlnokaa
