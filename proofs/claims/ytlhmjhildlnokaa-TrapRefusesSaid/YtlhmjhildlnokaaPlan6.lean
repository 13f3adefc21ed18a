/-
  The walks of the document's plan: points, links, what lies on a line, what is met.
-/
import Derived.Test.YtlhmjhildlnokaaPlan2
import Derived.Test.YtlhmjhildlnokaaGeomS
namespace Go.Proofs.Ytlhmjhildlnokaa
set_option linter.unusedVariables false
set_option linter.unusedSimpArgs false
open Go.RowKit

def rpt (vs : List Vt) (id : Int) : Pt := ((vs.find? fun v => v.id == id).map (·.p)).getD ⟨0, 0⟩
theorem rpt_some {vs : List Vt} {id i x y : Int} (h : (vs.find? fun v => v.id == id) = some ⟨i, ⟨x, y⟩⟩) : rpt vs id = ⟨x, y⟩ := by unfold rpt; rw [h]; rfl
theorem find_idx {α : Type} {f : α → Bool} : ∀ {l : List α} {a : α}, l.find? f = some a → ∃ k, l.findIdx? f = some k ∧ l[k]? = some a
  | [], a, h => by simp at h
  | b :: l, a, h => by
    by_cases hb : f b = true
    · rw [List.find?_cons_of_pos hb] at h
      exact ⟨0, by simp [List.findIdx?_cons, hb], by simpa using h⟩
    · rw [List.find?_cons_of_neg hb] at h
      obtain ⟨k, h1, h2⟩ := find_idx h
      exact ⟨k + 1, by rw [List.findIdx?_cons, h1]; simp [hb], by simpa using h2⟩
theorem inB_P {a : Pt} (h : inB a = true) : InP a := of_decide_eq_true h
def linksB (es : List Eg) (a b : Int) : Bool := es.any fun e => (e.a == a && e.b == b) || (e.a == b && e.b == a)
def onWayR (vs : List Vt) (a b : Pt) : Bool := vs.any fun v => onR v.p a b
def meetsR (vs : List Vt) (es : List Eg) (a b : Pt) : Bool := es.any fun e => meetR a b (rpt vs e.a) (rpt vs e.b)
set_option maxRecDepth 100000 in
set_option maxHeartbeats 8000000 in
theorem refAt_any (vs : List Vt) (A A2 : Option Addr) (n m : Nat) (c c2 : Nat) (F : Nat → Prop) (id i x y : Int) (w : World) (hn : n = vs.length) (hs : Sl F w A (vR vs)) (hl : n ≤ 1000000) (he : (vs.find? fun v => v.id == id) = some ⟨i, ⟨x, y⟩⟩) :
    Calls Try.prog 33 #[.agg #[.slice A n c, .slice A2 m c2], .int .i64 id] w fun e w' => e = .returned (pV x y) ∧ Below w.heap.size w w' := by
  obtain ⟨b0, o0, H, f0⟩ := (Own.start w).addSl (hs.ro (by rfl))
  clear hs
  subst hn
  obtain ⟨k, hk, hv⟩ := find_idx he
  have hrv := fun F w h => refVertex_any vs A A2 vs.length m c c2 F id w rfl h hl
  rw [hk] at hrv
  simp only [ixZ] at hrv
  have hkl : k < vs.length := (List.getElem?_eq_some_iff.1 hv).1
  obtain rfl := H.rdAddr m0 (vR_pos hv)
  have hp := at_vp (A := some ⟨b0, o0, none⟩) (b := b0) (off := o0) hv
  clear hk hv he
  go_enter Try.func33, Try.ntmps33
  have tk0 : True := trivial
  have tk1 : True := trivial
  go_wp2_with (first
    | (guard_target =~ Code.wp _ (Code.region 1 _ true) _ _ _; refine region_tree 1 1 (G := True) (.q 0 (.q 1 (.q 2 (.q 3 (.e 4 (.q 5 (.q 6 (.q 7 (.e 8 .nil))))))))) (by kernel_rfl) (by intro c a d v w h; cases d <;> exact h) (by kernel_rfl) H ⟨trivial⟩ (fun _ w3 H2 => ?_); (clear H; (try clear w2); revert w3; intro w2 H); simp only [List.drop_succ_cons, List.drop_zero])
    | (go_at_call 49; (with_reducible refine (hrv _ _ (by exact H.giveRd m2 f0)).mono ?_); rintro e w3 ⟨rfl, hb⟩; replace H := H.ext hb; clear hb; dsimp only; (refine hK _ _ ⟨_, H, by repeat first | exact .here | apply Suf.there⟩ ?_; clear hK K; (try simp only [Act.put, List.setIfInBounds_toArray, List.set_cons_succ, List.set_cons_zero])))
    | (guard_target =~ wpList _ _ _ (_ :: _) _ _; ((first | (guard_target =~ wpList _ _ _ (Oper.mk _ (.alloc _) _ _ _ _ :: _) _ _; refine BigFrame.wpList_want rfl (fun K hK => ?_); refine o_alloc (z := ?_) rfl ?_ H rfl (fun w3 b2 he H2 => hK _ _ ?_); rotate_left 1; (focus (intro _; simp; with_reducible exact rfl))) | (guard_target =~ wpList _ _ _ (Oper.mk _ (.box _ _) _ _ _ _ :: _) _ _; refine BigFrame.wpList_want rfl (fun K hK => ?_); refine o_box rfl H rfl (fun w3 b2 he H2 => hK _ _ ?_))); clear hK K he; clear H; (try clear w2); revert w3; intro w2 H; simp [Act.eval, Value.cells, setL, List.getD] at H; (first | (clear tk0; rename Nat => b1) | (clear tk1; rename Nat => b2))); simp only [Act.put, List.setIfInBounds_toArray, List.set_cons_succ, List.set_cons_zero])
    | (guard_target =~ wpTree _ _ _ _ _ _ _; first | (guard_target =~ wpTree _ _ _ (Tr.q _ _) _ _ _; first | (refine tree_quiet ⟨_, H, by repeat first | exact .here | apply Suf.there⟩ rfl rfl rfl (fun K hK => ?_); simp only [List.getElem_toArray, List.getElem_cons_succ, List.getElem_cons_zero]; first | (guard_target =~ Oper.quiet _ (Oper.mk _ (.load _ _) _ _ _ _) _ _ _; (first | (refine q_loadC (v := ?_) (row := ?_) rfl rfl ?_ ?_ ?_ (hK _ ?_); rotate_left 2; (repeat first | exact .head _ | apply List.Mem.tail); (exact rfl); (focus (intro _; simp; done))) | (refine q_loadN (cs := ?_) (r := ?_) rfl rfl ?_ ?_ ?_ ?_ (hK _ ?_); rotate_left 2; (with_reducible assumption); (repeat first | exact .head _ | apply List.Mem.tail); (focus (intro _; simp; done)); (focus (intro _; simp; done))) | (refine q_loadNC (row := ?_) rfl rfl ?_ ?_ ?_ (hK _ ?_); rotate_left 1; (repeat first | exact .head _ | apply List.Mem.tail); (focus (intro _; simp; done)); (focus (intro _; simp; done)))); clear hK K; simp only [Act.put, List.setIfInBounds_toArray, List.set_cons_succ, List.set_cons_zero]) | (go_big_quiet_op; (try refine ⟨_, fun _ _ => rfl, ?_⟩); refine hK _ ?_; clear hK K)) | (refine tree_skip ⟨_, H, by repeat first | exact .here | apply Suf.there⟩ rfl rfl ?_; simp only [List.getElem_toArray, List.getElem_cons_succ, List.getElem_cons_zero, Act.put, List.setIfInBounds_toArray, List.set_cons_succ, List.set_cons_zero])) | (guard_target =~ wpTree _ _ _ (Tr.both _ _) _ _ _; refine tree_both ?_ ?_) | (guard_target =~ wpTree _ _ _ (Tr.e _ _) _ _ _; first | (refine tree_one rfl rfl (fun K hK => ?_); simp only [List.getElem_toArray, List.getElem_cons_succ, List.getElem_cons_zero]; first | ((guard_target =~ Oper.wp _ (Oper.mk _ (.store _ _ _) _ _ _ _) _ _ _ _; refine o_store (l' := ?_) (row := ?_) rfl rfl H rfl ?_ ?_ ?_ ?_ (fun w3 H2 => hK _ _ ⟨_, H2, ?_⟩ ?_); rotate_left 2; (exact r0); (focus (intro _; simp [Act.eval, Value.cells]; done)); (focus (simp [Act.eval, Value.cells]; done)); (exact rfl); (guard_target =~ Suf _ _; repeat first | exact .here | apply Suf.there); clear hK K; clear H; (try clear w2); revert w3; intro w2 H; simp [Act.eval, Value.cells, setL, List.getD] at H); simp only [Act.put, List.setIfInBounds_toArray, List.set_cons_succ, List.set_cons_zero]) | (go_big_op; (skip))) | (refine tree_one_skip ⟨_, H, by repeat first | exact .here | apply Suf.there⟩ rfl rfl ?_; simp only [List.getElem_toArray, List.getElem_cons_succ, List.getElem_cons_zero, Act.put, List.setIfInBounds_toArray, List.set_cons_succ, List.set_cons_zero])) | (guard_target =~ wpTree _ _ _ Tr.nil _ _ _; refine tree_nil ?_)))
  have hr := H.loadVarN (P := Try.prog) (ty := 47) (b := b2) m0 (by simp) (by simp)
  exact bodyPost_ret (v := pV x y) (by simp [results, Try.results33, asAddr, hr]) rfl ⟨rfl, H.below⟩
set_option maxRecDepth 100000 in
set_option maxHeartbeats 8000000 in
theorem links_any (es : List Eg) (A A2 : Option Addr) (n m : Nat) (c c2 : Nat) (F : Nat → Prop) (p q : Int) (w : World) (hn : n = es.length) (hs : Sl F w A (eR es)) (hl : n ≤ 1000000) :
    Calls Try.prog 50 #[.agg #[.slice A2 m c2, .slice A n c], .int .i64 p, .int .i64 q] w fun e w' => e = .returned (.bool (linksB es p q)) ∧ Below w.heap.size w w' := by
  obtain ⟨v, hv⟩ : ∃ v, linksB es p q = v := ⟨_, rfl⟩
  have HV := Lib.hid hv
  rw [hv]; clear hv
  obtain ⟨b0, o0, H, f0⟩ := (Own.start w).addSl (hs.ro (by rfl))
  clear hs
  subst hn
  unfold linksB at HV
  generalize hf : (fun e : Eg => (e.a == p && e.b == q) || (e.a == q && e.b == p)) = f at HV
  go_enter Try.func50, Try.ntmps50
  have tk0 : True := trivial
  go_wp2_with (guard_target =~ wpList _ _ _ (_ :: _) _ _; ((guard_target =~ wpList _ _ _ (Oper.mk _ (.box _ _) _ _ _ _ :: _) _ _; refine BigFrame.wpList_want rfl (fun K hK => ?_); refine o_box rfl H rfl (fun w3 b2 he H2 => hK _ _ ?_)); clear hK K he; clear H; (try clear w2); revert w3; intro w2 H; simp [Act.eval, Value.cells, setL, List.getD] at H; (clear tk0; rename Nat => b1)); simp only [Act.put, List.setIfInBounds_toArray, List.set_cons_succ, List.set_cons_zero])
  go_loopg [7] es.length (fun k i wr => k ≤ es.length ∧ i = .int .i64 ((es.length - k : Nat) : Int) ∧ (es.take (es.length - k)).any f = false ∧ Own w.heap.size w wr [.cells b1 [.slice A2 m c2, .slice A es.length c], .rd A b0 o0 (eR es)])
  case atStart => exact ⟨Nat.le_refl _, by simp, by simp, H⟩
  case round =>
    clear H
    obtain ⟨hk, rfl, ht, H⟩ := hrel
    have HT := Lib.hid ht
    clear ht
    by_cases hlt : 0 < gk
    · obtain ⟨j, hj⟩ : ∃ j, es.length - gk = j := ⟨_, rfl⟩
      have hjl : j < es.length := by omega
      rw [hj] at HT ⊢
      obtain ⟨i, x, y, he⟩ := eg_at es hjl
      obtain rfl := H.rdAddr m1 (eR_pos he)
      have hp := at_e (A := some ⟨b0, o0, none⟩) (b := b0) (off := o0) he
      obtain ⟨v1, hv1⟩ : ∃ v, (x == p) = v := ⟨_, rfl⟩
      obtain ⟨v2, hv2⟩ : ∃ v, (y == q) = v := ⟨_, rfl⟩
      obtain ⟨v3, hv3⟩ : ∃ v, (x == q) = v := ⟨_, rfl⟩
      obtain ⟨v4, hv4⟩ : ∃ v, (y == p) = v := ⟨_, rfl⟩
      have hfv : f ⟨i, x, y⟩ = ((v1 && v2) || (v3 && v4)) := by rw [← hf, ← hv1, ← hv2, ← hv3, ← hv4]
      have HF := Lib.hid hfv
      have HE := Lib.hid he
      have HJ := Lib.hid hj
      clear hfv he hj hf
      cases v1 <;> cases v2 <;> cases v3 <;> cases v4
      all_goals
        have tk0 : True := trivial
        go_wp2_with (first
          | go_big_skip
          | (guard_target =~ wpList _ _ _ (_ :: _) _ _; (first | (guard_target =~ wpList _ _ _ (Oper.mk _ (.load _ _) _ _ _ _ :: _) _ _; refine BigFrame.wpList_want rfl (fun K hK => ?_); (first | (refine o_loadC (v := ?_) (row := ?_) rfl rfl H ?_ ?_ ?_ (hK _ _ ?_); rotate_left 2; (repeat first | exact .head _ | apply List.Mem.tail); (exact rfl); (focus (intro _; simp; done))) | (refine o_loadN (cs := ?_) (r := ?_) rfl rfl H ?_ ?_ ?_ ?_ (hK _ _ ?_); rotate_left 2; (with_reducible assumption); (repeat first | exact .head _ | apply List.Mem.tail); (focus (intro _; simp; done)); (focus (intro _; simp; done)))); clear hK K) | (guard_target =~ wpList _ _ _ (Oper.mk _ (.store _ _ _) _ _ _ _ :: _) _ _; refine BigFrame.wpList_want rfl (fun K hK => ?_); refine o_store (l' := ?_) (row := ?_) rfl rfl H rfl ?_ ?_ ?_ ?_ (fun w3 H2 => hK _ _ ?_); rotate_left 2; (exact r0); (focus (intro _; simp [Act.eval, Value.cells]; done)); (focus (simp [Act.eval, Value.cells]; done)); (exact rfl); clear hK K; clear H; (try clear w2); revert w3; intro w2 H; simp [Act.eval, Value.cells, setL, List.getD] at H) | ((guard_target =~ wpList _ _ _ (Oper.mk _ (.alloc _) _ _ _ _ :: _) _ _; refine BigFrame.wpList_want rfl (fun K hK => ?_); refine o_alloc (z := ?_) rfl ?_ H rfl (fun w3 b2 he H2 => hK _ _ ?_); rotate_left 1; (focus (intro _; simp; with_reducible exact rfl))); clear hK K he; clear H; (try clear w2); revert w3; intro w2 H; simp [Act.eval, Value.cells, setL, List.getD] at H; (clear tk0; rename Nat => b4))); simp only [Act.put, List.setIfInBounds_toArray, List.set_cons_succ, List.set_cons_zero]))
        first
          | (go_roundg (gk - 1)
             case rel => exact ⟨by omega, by have := HJ.out; congr 1; omega, by rw [show es.length - (gk - 1) = j + 1 by have := HJ.out; omega]; exact any_step HE.out HT.out HF.out, H.tail⟩
             case measure => omega)
          | (go_ret
             exact ⟨ret_b (by rw [← HV.out, any_yes HE.out HF.out]), H.below⟩)
    · obtain rfl : gk = 0 := by omega
      have tk0 : True := trivial
      go_wp2_with (guard_target =~ wpList _ _ _ (_ :: _) _ _; (guard_target =~ wpList _ _ _ (Oper.mk _ (.load _ _) _ _ _ _ :: _) _ _; refine BigFrame.wpList_want rfl (fun K hK => ?_); (refine o_loadC (v := ?_) (row := ?_) rfl rfl H ?_ ?_ ?_ (hK _ _ ?_); rotate_left 2; (repeat first | exact .head _ | apply List.Mem.tail); (exact rfl); (focus (intro _; simp; done))); clear hK K); simp only [Act.put, List.setIfInBounds_toArray, List.set_cons_succ, List.set_cons_zero])
      go_ret
      exact ⟨ret_b (by rw [← HV.out, ← HT.out, Nat.sub_zero, List.take_length]), H.below⟩
set_option maxRecDepth 100000 in
set_option maxHeartbeats 8000000 in
theorem onWayR_any (vs : List Vt) (A A2 : Option Addr) (n m : Nat) (c c2 : Nat) (F : Nat → Prop) (ax ay bx b_y : Int) (w : World) (hn : n = vs.length) (hs : Sl F w A (vR vs)) (hl : n ≤ 1000000)
    (hin : ∀ v ∈ vs, inB v.p = true) (ia : inB ⟨ax, ay⟩ = true) (ib : inB ⟨bx, b_y⟩ = true) :
    Calls Try.prog 51 #[.agg #[.slice A n c, .slice A2 m c2], pV ax ay, pV bx b_y] w fun e w' => e = .returned (.bool (onWayR vs ⟨ax, ay⟩ ⟨bx, b_y⟩)) ∧ Below w.heap.size w w' := by
  obtain ⟨v, hv⟩ : ∃ v, onWayR vs ⟨ax, ay⟩ ⟨bx, b_y⟩ = v := ⟨_, rfl⟩
  have HV := Lib.hid hv
  rw [hv]; clear hv
  obtain ⟨b0, o0, H, f0⟩ := (Own.start w).addSl (hs.ro (by rfl))
  clear hs
  subst hn
  unfold onWayR at HV
  have HI := Lib.hid hin
  have HIA := Lib.hid ia
  have HIB := Lib.hid ib
  clear hin ia ib
  generalize hf : (fun v : Vt => onR v.p ⟨ax, ay⟩ ⟨bx, b_y⟩) = f at HV
  have HF := Lib.hid hf
  clear hf
  go_enter Try.func51, Try.ntmps51
  have tk0 : True := trivial
  have tk1 : True := trivial
  have tk2 : True := trivial
  go_wp2_with (guard_target =~ wpList _ _ _ (_ :: _) _ _; ((guard_target =~ wpList _ _ _ (Oper.mk _ (.box _ _) _ _ _ _ :: _) _ _; refine BigFrame.wpList_want rfl (fun K hK => ?_); refine o_box rfl H rfl (fun w3 b2 he H2 => hK _ _ ?_)); clear hK K he; clear H; (try clear w2); revert w3; intro w2 H; simp [Act.eval, Value.cells, setL, List.getD] at H; (first | (clear tk0; rename Nat => b1) | (clear tk1; rename Nat => b2) | (clear tk2; rename Nat => b3))); simp only [Act.put, List.setIfInBounds_toArray, List.set_cons_succ, List.set_cons_zero])
  go_loopg [7] vs.length (fun k i wr => k ≤ vs.length ∧ i = .int .i64 ((vs.length - k : Nat) : Int) ∧ (vs.take (vs.length - k)).any f = false ∧ Own w.heap.size w wr [.cells b3 [.int .i64 bx, .int .i64 b_y], .cells b2 [.int .i64 ax, .int .i64 ay], .cells b1 [.slice A vs.length c, .slice A2 m c2], .rd A b0 o0 (vR vs)])
  case atStart => exact ⟨Nat.le_refl _, by simp, by simp, H⟩
  case round =>
    clear H
    obtain ⟨hk, rfl, ht, H⟩ := hrel
    have HT := Lib.hid ht
    clear ht
    by_cases hlt : 0 < gk
    · obtain ⟨j, hj⟩ : ∃ j, vs.length - gk = j := ⟨_, rfl⟩
      have hjl : j < vs.length := by omega
      rw [hj] at HT ⊢
      obtain ⟨i, x, y, he⟩ := vt_at vs hjl
      obtain rfl := H.rdAddr m3 (vR_pos he)
      have hp := at_vp (A := some ⟨b0, o0, none⟩) (b := b0) (off := o0) he
      have hon := refOn_any x y ax ay bx b_y (inB_P (HI.out _ (List.mem_of_getElem? he))) (inB_P HIA.out) (inB_P HIB.out)
      obtain ⟨v1, hv1⟩ : ∃ v, onR ⟨x, y⟩ ⟨ax, ay⟩ ⟨bx, b_y⟩ = v := ⟨_, rfl⟩
      have hfv : f ⟨i, ⟨x, y⟩⟩ = v1 := by rw [← HF.out]; exact hv1
      rw [hv1] at hon
      have HF1 := Lib.hid hfv
      have HE := Lib.hid he
      have HJ := Lib.hid hj
      clear hv1 hfv he hj
      cases v1
      · have tk0 : True := trivial
        go_wp2_with (first
          | (guard_target =~ Code.wp _ (Code.region 4 _ true) _ _ _; refine region_tree0 4 (G := True) (.q 0 (.q 1 (.q 2 (.q 3 (.q 4 (.q 5 (.q 6 (.q 7 (.e 8 .nil))))))))) (by kernel_rfl) (by intro c a d v w h; cases d <;> exact h) (by kernel_rfl) H ⟨trivial⟩ (fun _ w3 H2 => ?_); (clear H; (try clear w2); revert w3; intro w2 H))
          | (go_at_call 76; (with_reducible refine (hon _).mono ?_); rintro e w3 ⟨rfl, hb⟩; replace H := H.ext hb; clear hb; dsimp only; (refine hK _ _ ⟨_, H, by repeat first | exact .here | apply Suf.there⟩ ?_; clear hK K; (try simp only [Act.put, List.setIfInBounds_toArray, List.set_cons_succ, List.set_cons_zero])))
          | (guard_target =~ wpList _ _ _ (_ :: _) _ _; (guard_target =~ wpList _ _ _ (Oper.mk _ (.load _ _) _ _ _ _ :: _) _ _; refine BigFrame.wpList_want rfl (fun K hK => ?_); (refine o_loadC (v := ?_) (row := ?_) rfl rfl H ?_ ?_ ?_ (hK _ _ ?_); rotate_left 2; (repeat first | exact .head _ | apply List.Mem.tail); (exact rfl); (focus (intro _; simp; done))); clear hK K); simp only [Act.put, List.setIfInBounds_toArray, List.set_cons_succ, List.set_cons_zero])
          | (guard_target =~ wpTree _ _ _ _ _ _ _; first | (guard_target =~ wpTree _ _ _ (Tr.q _ _) _ _ _; first | (refine tree_quiet ⟨_, H, by repeat first | exact .here | apply Suf.there⟩ rfl rfl rfl (fun K hK => ?_); simp only [List.getElem_toArray, List.getElem_cons_succ, List.getElem_cons_zero]; first | (guard_target =~ Oper.quiet _ (Oper.mk _ (.load _ _) _ _ _ _) _ _ _; (first | (refine q_loadC (v := ?_) (row := ?_) rfl rfl ?_ ?_ ?_ (hK _ ?_); rotate_left 2; (repeat first | exact .head _ | apply List.Mem.tail); (exact rfl); (focus (intro _; simp; done))) | (refine q_loadN (cs := ?_) (r := ?_) rfl rfl ?_ ?_ ?_ ?_ (hK _ ?_); rotate_left 2; (with_reducible assumption); (repeat first | exact .head _ | apply List.Mem.tail); (focus (intro _; simp; done)); (focus (intro _; simp; done))) | (refine q_loadNC (row := ?_) rfl rfl ?_ ?_ ?_ (hK _ ?_); rotate_left 1; (repeat first | exact .head _ | apply List.Mem.tail); (focus (intro _; simp; done)); (focus (intro _; simp; done)))); clear hK K; simp only [Act.put, List.setIfInBounds_toArray, List.set_cons_succ, List.set_cons_zero]) | (go_big_quiet_op; (try refine ⟨_, fun _ _ => rfl, ?_⟩); refine hK _ ?_; clear hK K)) | (refine tree_skip ⟨_, H, by repeat first | exact .here | apply Suf.there⟩ rfl rfl ?_; simp only [List.getElem_toArray, List.getElem_cons_succ, List.getElem_cons_zero, Act.put, List.setIfInBounds_toArray, List.set_cons_succ, List.set_cons_zero])) | (guard_target =~ wpTree _ _ _ (Tr.both _ _) _ _ _; refine tree_both ?_ ?_) | (guard_target =~ wpTree _ _ _ (Tr.e _ _) _ _ _; first | (refine tree_one rfl rfl (fun K hK => ?_); simp only [List.getElem_toArray, List.getElem_cons_succ, List.getElem_cons_zero]; first | ((first | fail); simp only [Act.put, List.setIfInBounds_toArray, List.set_cons_succ, List.set_cons_zero]) | (go_big_op; (skip))) | (refine tree_one_skip ⟨_, H, by repeat first | exact .here | apply Suf.there⟩ rfl rfl ?_; simp only [List.getElem_toArray, List.getElem_cons_succ, List.getElem_cons_zero, Act.put, List.setIfInBounds_toArray, List.set_cons_succ, List.set_cons_zero])) | (guard_target =~ wpTree _ _ _ Tr.nil _ _ _; refine tree_nil ?_)))
        go_roundg (gk - 1)
        case rel => exact ⟨by omega, by have := HJ.out; congr 1; omega, by rw [show vs.length - (gk - 1) = j + 1 by have := HJ.out; omega]; exact any_step HE.out HT.out HF1.out, H⟩
        case measure => omega
      · have tk0 : True := trivial
        go_wp2_with (first
          | (guard_target =~ Code.wp _ (Code.region 4 _ true) _ _ _; refine region_tree0 4 (G := True) (.q 0 (.q 1 (.q 2 (.q 3 (.q 4 (.q 5 (.q 6 (.q 7 (.e 8 .nil))))))))) (by kernel_rfl) (by intro c a d v w h; cases d <;> exact h) (by kernel_rfl) H ⟨trivial⟩ (fun _ w3 H2 => ?_); (clear H; (try clear w2); revert w3; intro w2 H))
          | (go_at_call 76; (with_reducible refine (hon _).mono ?_); rintro e w3 ⟨rfl, hb⟩; replace H := H.ext hb; clear hb; dsimp only; (refine hK _ _ ⟨_, H, by repeat first | exact .here | apply Suf.there⟩ ?_; clear hK K; (try simp only [Act.put, List.setIfInBounds_toArray, List.set_cons_succ, List.set_cons_zero])))
          | (guard_target =~ wpList _ _ _ (_ :: _) _ _; (guard_target =~ wpList _ _ _ (Oper.mk _ (.load _ _) _ _ _ _ :: _) _ _; refine BigFrame.wpList_want rfl (fun K hK => ?_); (refine o_loadC (v := ?_) (row := ?_) rfl rfl H ?_ ?_ ?_ (hK _ _ ?_); rotate_left 2; (repeat first | exact .head _ | apply List.Mem.tail); (exact rfl); (focus (intro _; simp; done))); clear hK K); simp only [Act.put, List.setIfInBounds_toArray, List.set_cons_succ, List.set_cons_zero])
          | (guard_target =~ wpTree _ _ _ _ _ _ _; first | (guard_target =~ wpTree _ _ _ (Tr.q _ _) _ _ _; first | (refine tree_quiet ⟨_, H, by repeat first | exact .here | apply Suf.there⟩ rfl rfl rfl (fun K hK => ?_); simp only [List.getElem_toArray, List.getElem_cons_succ, List.getElem_cons_zero]; first | (guard_target =~ Oper.quiet _ (Oper.mk _ (.load _ _) _ _ _ _) _ _ _; (first | (refine q_loadC (v := ?_) (row := ?_) rfl rfl ?_ ?_ ?_ (hK _ ?_); rotate_left 2; (repeat first | exact .head _ | apply List.Mem.tail); (exact rfl); (focus (intro _; simp; done))) | (refine q_loadN (cs := ?_) (r := ?_) rfl rfl ?_ ?_ ?_ ?_ (hK _ ?_); rotate_left 2; (with_reducible assumption); (repeat first | exact .head _ | apply List.Mem.tail); (focus (intro _; simp; done)); (focus (intro _; simp; done))) | (refine q_loadNC (row := ?_) rfl rfl ?_ ?_ ?_ (hK _ ?_); rotate_left 1; (repeat first | exact .head _ | apply List.Mem.tail); (focus (intro _; simp; done)); (focus (intro _; simp; done)))); clear hK K; simp only [Act.put, List.setIfInBounds_toArray, List.set_cons_succ, List.set_cons_zero]) | (go_big_quiet_op; (try refine ⟨_, fun _ _ => rfl, ?_⟩); refine hK _ ?_; clear hK K)) | (refine tree_skip ⟨_, H, by repeat first | exact .here | apply Suf.there⟩ rfl rfl ?_; simp only [List.getElem_toArray, List.getElem_cons_succ, List.getElem_cons_zero, Act.put, List.setIfInBounds_toArray, List.set_cons_succ, List.set_cons_zero])) | (guard_target =~ wpTree _ _ _ (Tr.both _ _) _ _ _; refine tree_both ?_ ?_) | (guard_target =~ wpTree _ _ _ (Tr.e _ _) _ _ _; first | (refine tree_one rfl rfl (fun K hK => ?_); simp only [List.getElem_toArray, List.getElem_cons_succ, List.getElem_cons_zero]; first | ((first | fail); simp only [Act.put, List.setIfInBounds_toArray, List.set_cons_succ, List.set_cons_zero]) | (go_big_op; (skip))) | (refine tree_one_skip ⟨_, H, by repeat first | exact .here | apply Suf.there⟩ rfl rfl ?_; simp only [List.getElem_toArray, List.getElem_cons_succ, List.getElem_cons_zero, Act.put, List.setIfInBounds_toArray, List.set_cons_succ, List.set_cons_zero])) | (guard_target =~ wpTree _ _ _ Tr.nil _ _ _; refine tree_nil ?_)))
        go_ret
        exact ⟨ret_b (by rw [← HV.out, any_yes HE.out HF1.out]), H.below⟩
    · obtain rfl : gk = 0 := by omega
      have tk0 : True := trivial
      go_wp2_with (guard_target =~ wpList _ _ _ (_ :: _) _ _; (guard_target =~ wpList _ _ _ (Oper.mk _ (.load _ _) _ _ _ _ :: _) _ _; refine BigFrame.wpList_want rfl (fun K hK => ?_); (refine o_loadC (v := ?_) (row := ?_) rfl rfl H ?_ ?_ ?_ (hK _ _ ?_); rotate_left 2; (repeat first | exact .head _ | apply List.Mem.tail); (exact rfl); (focus (intro _; simp; done))); clear hK K); simp only [Act.put, List.setIfInBounds_toArray, List.set_cons_succ, List.set_cons_zero])
      go_ret
      exact ⟨ret_b (by rw [← HV.out, ← HT.out, Nat.sub_zero, List.take_length]), H.below⟩
set_option maxRecDepth 100000 in
set_option maxHeartbeats 8000000 in
theorem meetsR_any (vs : List Vt) (es : List Eg) (A A2 : Option Addr) (n m u : Nat) (c c2 : Nat) (F : Nat → Prop) (ax ay bx b_y : Int) (w : World) (hn : n = vs.length) (hm : m = es.length) (hs : Sl F w A (vR vs)) (hs2 : Sl F w A2 (eR es)) (hl : n ≤ 1000000) (hl2 : m ≤ 1000000)
    (hu : u ≤ m) (hin : ∀ v ∈ vs, inB v.p = true) (hav : ∀ e ∈ es.take u, (∃ v, (vs.find? fun v => v.id == e.a) = some v) ∧ ∃ v, (vs.find? fun v => v.id == e.b) = some v) (ia : inB ⟨ax, ay⟩ = true) (ib : inB ⟨bx, b_y⟩ = true) :
    Calls Try.prog 52 #[.agg #[.slice A n c, .slice A2 m c2], pV ax ay, pV bx b_y, .int .i64 (u : Int)] w fun e w' => e = .returned (.bool (meetsR vs (es.take u) ⟨ax, ay⟩ ⟨bx, b_y⟩)) ∧ Below w.heap.size w w' := by
  obtain ⟨v, hv⟩ : ∃ v, meetsR vs (es.take u) ⟨ax, ay⟩ ⟨bx, b_y⟩ = v := ⟨_, rfl⟩
  have HV := Lib.hid hv
  rw [hv]; clear hv
  obtain ⟨b0, o0, H1, f0⟩ := (Own.start w).addSl (hs.ro (by rfl))
  obtain ⟨b9, o9, H, f9⟩ := H1.addSl (hs2.ro (by rfl))
  clear hs hs2 H1
  subst hn hm
  unfold meetsR at HV
  have HI := Lib.hid hin
  have HIA := Lib.hid ia
  have HIB := Lib.hid ib
  have HAV := Lib.hid hav
  clear hin ia ib hav
  generalize hf : (fun e : Eg => meetR ⟨ax, ay⟩ ⟨bx, b_y⟩ (rpt vs e.a) (rpt vs e.b)) = f at HV
  have HF := Lib.hid hf
  clear hf
  go_enter Try.func52, Try.ntmps52
  have tk0 : True := trivial
  have tk1 : True := trivial
  have tk2 : True := trivial
  go_wp2_with (guard_target =~ wpList _ _ _ (_ :: _) _ _; ((guard_target =~ wpList _ _ _ (Oper.mk _ (.box _ _) _ _ _ _ :: _) _ _; refine BigFrame.wpList_want rfl (fun K hK => ?_); refine o_box rfl H rfl (fun w3 b2 he H2 => hK _ _ ?_)); clear hK K he; clear H; (try clear w2); revert w3; intro w2 H; simp [Act.eval, Value.cells, setL, List.getD] at H; (first | (clear tk0; rename Nat => b1) | (clear tk1; rename Nat => b2) | (clear tk2; rename Nat => b3))); simp only [Act.put, List.setIfInBounds_toArray, List.set_cons_succ, List.set_cons_zero])
  go_loopg [9] u (fun k i wr => k ≤ u ∧ i = .int .i64 ((u - k : Nat) : Int) ∧ (es.take (u - k)).any f = false ∧ Own w.heap.size w wr [.cells b3 [.int .i64 bx, .int .i64 b_y], .cells b2 [.int .i64 ax, .int .i64 ay], .cells b1 [.slice A vs.length c, .slice A2 es.length c2], .rd A2 b9 o9 (eR es), .rd A b0 o0 (vR vs)])
  case atStart => exact ⟨Nat.le_refl _, by simp, by simp, H⟩
  case round =>
    clear H
    obtain ⟨hk, rfl, ht, H⟩ := hrel
    have HT := Lib.hid ht
    clear ht
    by_cases hlt : 0 < gk
    · obtain ⟨j, hj⟩ : ∃ j, u - gk = j := ⟨_, rfl⟩
      have hjl : j < es.length := by omega
      have hju : j < u := by omega
      rw [hj] at HT ⊢
      obtain ⟨i, x, y, he⟩ := eg_at es hjl
      obtain rfl := H.rdAddr m3 (eR_pos he)
      have hp := at_ea (A := some ⟨b9, o9, none⟩) (b := b9) (off := o9) he
      have hp2 := at_eb (A := some ⟨b9, o9, none⟩) (b := b9) (off := o9) he
      obtain ⟨⟨⟨vi, vx, vy⟩, hv1⟩, ⟨wi, wx, wy⟩, hv2⟩ := HAV.out ⟨i, x, y⟩ (List.mem_of_getElem? (i := j) (by rw [List.getElem?_take, if_pos hju]; exact he))
      have ic := HI.out _ (List.mem_of_find?_eq_some hv1)
      have id_ := HI.out _ (List.mem_of_find?_eq_some hv2)
      have ha1 := fun F w h => refAt_any vs A (some ⟨b9, o9, none⟩) vs.length es.length c c2 F x vi vx vy w rfl h hl hv1
      have ha2 := fun F w h => refAt_any vs A (some ⟨b9, o9, none⟩) vs.length es.length c c2 F y wi wx wy w rfl h hl hv2
      have hmt := refMeet_any ax ay bx b_y vx vy wx wy (inB_P HIA.out) (inB_P HIB.out) (inB_P ic) (inB_P id_)
      have hfv : f ⟨i, x, y⟩ = meetR ⟨ax, ay⟩ ⟨bx, b_y⟩ ⟨vx, vy⟩ ⟨wx, wy⟩ := by rw [← HF.out]; simp only []; rw [rpt_some hv1, rpt_some hv2]
      clear hv1 hv2 ic id_
      generalize meetR ⟨ax, ay⟩ ⟨bx, b_y⟩ ⟨vx, vy⟩ ⟨wx, wy⟩ = v1 at hmt hfv
      have HF1 := Lib.hid hfv
      have HE := Lib.hid he
      have HJ := Lib.hid hj
      clear hfv he hj
      cases v1
      · have tk0 : True := trivial
        go_wp2_with (first
          | (guard_target =~ Code.wp _ (Code.region 4 _ true) _ _ _; refine region_tree0 4 (G := True) (.q 0 (.q 1 (.q 2 (.q 3 (.q 4 (.q 5 (.q 6 (.q 7 (.q 8 (.q 10 (.q 11 (.q 12 (.q 13 (.q 14 (.q 15 (.q 16 (.e 9 (.e 17 (.e 18 .nil))))))))))))))))))) (by kernel_rfl) (by intro c a d v w h; cases d <;> exact h) (by kernel_rfl) H ⟨trivial⟩ (fun _ w3 H2 => ?_); (clear H; (try clear w2); revert w3; intro w2 H))
          | (go_at_call 33; (with_reducible refine (ha1 _ _ (by exact H.giveRd m4 f0)).mono ?_); rintro e w3 ⟨rfl, hb⟩; replace H := H.ext hb; clear hb; dsimp only; (refine hK _ _ ⟨_, H, by repeat first | exact .here | apply Suf.there⟩ ?_; clear hK K; (try simp only [Act.put, List.setIfInBounds_toArray, List.set_cons_succ, List.set_cons_zero])))
          | (go_at_call 33; (with_reducible refine (ha2 _ _ (by exact H.giveRd m4 f0)).mono ?_); rintro e w3 ⟨rfl, hb⟩; replace H := H.ext hb; clear hb; dsimp only; (refine hK _ _ ⟨_, H, by repeat first | exact .here | apply Suf.there⟩ ?_; clear hK K; (try simp only [Act.put, List.setIfInBounds_toArray, List.set_cons_succ, List.set_cons_zero])))
          | (go_at_call 77; (with_reducible refine (hmt _).mono ?_); rintro e w3 ⟨rfl, hb⟩; replace H := H.ext hb; clear hb; dsimp only; (refine hK _ _ ⟨_, H, by repeat first | exact .here | apply Suf.there⟩ ?_; clear hK K; (try simp only [Act.put, List.setIfInBounds_toArray, List.set_cons_succ, List.set_cons_zero])))
          | (guard_target =~ wpTree _ _ _ _ _ _ _; first | (guard_target =~ wpTree _ _ _ (Tr.q _ _) _ _ _; first | (refine tree_quiet ⟨_, H, by repeat first | exact .here | apply Suf.there⟩ rfl rfl rfl (fun K hK => ?_); simp only [List.getElem_toArray, List.getElem_cons_succ, List.getElem_cons_zero]; first | (guard_target =~ Oper.quiet _ (Oper.mk _ (.load _ _) _ _ _ _) _ _ _; (first | (refine q_load (v := ?_) (r := ?_) rfl rfl ?_ ?_ ?_ (hK _ ?_); rotate_left 2; (with_reducible assumption); (repeat first | exact .head _ | apply List.Mem.tail); (focus (intro _; simp; done))) | (refine q_loadC (v := ?_) (row := ?_) rfl rfl ?_ ?_ ?_ (hK _ ?_); rotate_left 2; (repeat first | exact .head _ | apply List.Mem.tail); (exact rfl); (focus (intro _; simp; done))) | (refine q_loadNC (row := ?_) rfl rfl ?_ ?_ ?_ (hK _ ?_); rotate_left 1; (repeat first | exact .head _ | apply List.Mem.tail); (focus (intro _; simp; done)); (focus (intro _; simp; done)))); clear hK K; simp only [Act.put, List.setIfInBounds_toArray, List.set_cons_succ, List.set_cons_zero]) | (go_big_quiet_op; (try refine ⟨_, fun _ _ => rfl, ?_⟩); refine hK _ ?_; clear hK K)) | (refine tree_skip ⟨_, H, by repeat first | exact .here | apply Suf.there⟩ rfl rfl ?_; simp only [List.getElem_toArray, List.getElem_cons_succ, List.getElem_cons_zero, Act.put, List.setIfInBounds_toArray, List.set_cons_succ, List.set_cons_zero])) | (guard_target =~ wpTree _ _ _ (Tr.both _ _) _ _ _; refine tree_both ?_ ?_) | (guard_target =~ wpTree _ _ _ (Tr.e _ _) _ _ _; first | (refine tree_one rfl rfl (fun K hK => ?_); simp only [List.getElem_toArray, List.getElem_cons_succ, List.getElem_cons_zero]; first | ((first | fail); simp only [Act.put, List.setIfInBounds_toArray, List.set_cons_succ, List.set_cons_zero]) | (go_big_op; (skip))) | (refine tree_one_skip ⟨_, H, by repeat first | exact .here | apply Suf.there⟩ rfl rfl ?_; simp only [List.getElem_toArray, List.getElem_cons_succ, List.getElem_cons_zero, Act.put, List.setIfInBounds_toArray, List.set_cons_succ, List.set_cons_zero])) | (guard_target =~ wpTree _ _ _ Tr.nil _ _ _; refine tree_nil ?_)))
        go_roundg (gk - 1)
        case rel => exact ⟨by omega, by have := HJ.out; congr 1; omega, by rw [show u - (gk - 1) = j + 1 by have := HJ.out; omega]; exact any_step HE.out HT.out HF1.out, H⟩
        case measure => omega
      · have tk0 : True := trivial
        go_wp2_with (first
          | (guard_target =~ Code.wp _ (Code.region 4 _ true) _ _ _; refine region_tree0 4 (G := True) (.q 0 (.q 1 (.q 2 (.q 3 (.q 4 (.q 5 (.q 6 (.q 7 (.q 8 (.q 10 (.q 11 (.q 12 (.q 13 (.q 14 (.q 15 (.q 16 (.e 9 (.e 17 (.e 18 .nil))))))))))))))))))) (by kernel_rfl) (by intro c a d v w h; cases d <;> exact h) (by kernel_rfl) H ⟨trivial⟩ (fun _ w3 H2 => ?_); (clear H; (try clear w2); revert w3; intro w2 H))
          | (go_at_call 33; (with_reducible refine (ha1 _ _ (by exact H.giveRd m4 f0)).mono ?_); rintro e w3 ⟨rfl, hb⟩; replace H := H.ext hb; clear hb; dsimp only; (refine hK _ _ ⟨_, H, by repeat first | exact .here | apply Suf.there⟩ ?_; clear hK K; (try simp only [Act.put, List.setIfInBounds_toArray, List.set_cons_succ, List.set_cons_zero])))
          | (go_at_call 33; (with_reducible refine (ha2 _ _ (by exact H.giveRd m4 f0)).mono ?_); rintro e w3 ⟨rfl, hb⟩; replace H := H.ext hb; clear hb; dsimp only; (refine hK _ _ ⟨_, H, by repeat first | exact .here | apply Suf.there⟩ ?_; clear hK K; (try simp only [Act.put, List.setIfInBounds_toArray, List.set_cons_succ, List.set_cons_zero])))
          | (go_at_call 77; (with_reducible refine (hmt _).mono ?_); rintro e w3 ⟨rfl, hb⟩; replace H := H.ext hb; clear hb; dsimp only; (refine hK _ _ ⟨_, H, by repeat first | exact .here | apply Suf.there⟩ ?_; clear hK K; (try simp only [Act.put, List.setIfInBounds_toArray, List.set_cons_succ, List.set_cons_zero])))
          | (guard_target =~ wpTree _ _ _ _ _ _ _; first | (guard_target =~ wpTree _ _ _ (Tr.q _ _) _ _ _; first | (refine tree_quiet ⟨_, H, by repeat first | exact .here | apply Suf.there⟩ rfl rfl rfl (fun K hK => ?_); simp only [List.getElem_toArray, List.getElem_cons_succ, List.getElem_cons_zero]; first | (guard_target =~ Oper.quiet _ (Oper.mk _ (.load _ _) _ _ _ _) _ _ _; (first | (refine q_load (v := ?_) (r := ?_) rfl rfl ?_ ?_ ?_ (hK _ ?_); rotate_left 2; (with_reducible assumption); (repeat first | exact .head _ | apply List.Mem.tail); (focus (intro _; simp; done))) | (refine q_loadC (v := ?_) (row := ?_) rfl rfl ?_ ?_ ?_ (hK _ ?_); rotate_left 2; (repeat first | exact .head _ | apply List.Mem.tail); (exact rfl); (focus (intro _; simp; done))) | (refine q_loadNC (row := ?_) rfl rfl ?_ ?_ ?_ (hK _ ?_); rotate_left 1; (repeat first | exact .head _ | apply List.Mem.tail); (focus (intro _; simp; done)); (focus (intro _; simp; done)))); clear hK K; simp only [Act.put, List.setIfInBounds_toArray, List.set_cons_succ, List.set_cons_zero]) | (go_big_quiet_op; (try refine ⟨_, fun _ _ => rfl, ?_⟩); refine hK _ ?_; clear hK K)) | (refine tree_skip ⟨_, H, by repeat first | exact .here | apply Suf.there⟩ rfl rfl ?_; simp only [List.getElem_toArray, List.getElem_cons_succ, List.getElem_cons_zero, Act.put, List.setIfInBounds_toArray, List.set_cons_succ, List.set_cons_zero])) | (guard_target =~ wpTree _ _ _ (Tr.both _ _) _ _ _; refine tree_both ?_ ?_) | (guard_target =~ wpTree _ _ _ (Tr.e _ _) _ _ _; first | (refine tree_one rfl rfl (fun K hK => ?_); simp only [List.getElem_toArray, List.getElem_cons_succ, List.getElem_cons_zero]; first | ((first | fail); simp only [Act.put, List.setIfInBounds_toArray, List.set_cons_succ, List.set_cons_zero]) | (go_big_op; (skip))) | (refine tree_one_skip ⟨_, H, by repeat first | exact .here | apply Suf.there⟩ rfl rfl ?_; simp only [List.getElem_toArray, List.getElem_cons_succ, List.getElem_cons_zero, Act.put, List.setIfInBounds_toArray, List.set_cons_succ, List.set_cons_zero])) | (guard_target =~ wpTree _ _ _ Tr.nil _ _ _; refine tree_nil ?_)))
        go_ret
        exact ⟨ret_b (by rw [← HV.out, any_yes (l := es.take u) (k := j) (by rw [List.getElem?_take, if_pos hju]; exact HE.out) HF1.out]), H.below⟩
    · obtain rfl : gk = 0 := by omega
      have tk0 : True := trivial
      go_wp2_with (first | fail)
      go_ret
      exact ⟨ret_b (by rw [← HV.out, ← HT.out, Nat.sub_zero]), H.below⟩
end Go.Proofs.Ytlhmjhildlnokaa
