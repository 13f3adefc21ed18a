/-
  The walks of plan: what may be done.
-/
import Derived.Test.YtbdmfmdkcjfjdaaPlan2
import Derived.Test.YtbdmfmdkcjfjdaaPlan4
namespace Go.Proofs.Ytbdmfmdkcjfjdaa
set_option linter.unusedVariables false
set_option linter.unusedSimpArgs false
open Go.RowKit

/-- A plan that is handed over. -/
structure Pl (F : Nat → Prop) (w : World) (A A2 : Option Addr) (n m c c2 : Nat) (vs : List Vt) (es : List Eg) : Prop where
  hn : n = vs.length
  hm : m = es.length
  hs : Sl F w A (vR vs)
  hs2 : Sl F w A2 (eR es)
  hl : n ≤ 1000000
  hl2 : m ≤ 1000000
  hc2 : m ≤ c2
  hcc : c2 ≤ maxLen
abbrev plV (A A2 : Option Addr) (n m c c2 : Nat) : Value := .agg #[.slice A n c, .slice A2 m c2]
def vtP (o : Option Vt) : Pt := (o.map (·.p)).getD zP
def canCutZ (vs : List Vt) (es : List Eg) (id : Int) : Int := if rightB vs es = false then 1 else if (es.find? fun v => v.id == id).isSome = false then 6 else 0
def canDropZ (vs : List Vt) (es : List Eg) (id : Int) : Int := if rightB vs es = false then 1 else if (vs.find? fun v => v.id == id).isSome = false then 6 else if 0 < degN es id then 16 else 0
def canSplitZ (vs : List Vt) (es : List Eg) (id : Int) (p : Pt) : Int := if rightB vs es = false then 1 else
  match es.find? fun v => v.id == id with
  | none => 6
  | some e => if onB p (vtP (vs.find? fun v => v.id == e.a)) (vtP (vs.find? fun v => v.id == e.b)) = false then 1 else if 512 ≤ vs.length ∨ 1024 ≤ es.length then 18 else 0
def samePair (a b : Int) (e : Eg) : Bool := decide ((⟨min e.a e.b, max e.a e.b⟩ : Pt) = ⟨min a b, max a b⟩)
def canLinkT (vs : List Vt) (es : List Eg) (a b : Int) (fx fy : Option Vt) : Int :=
  match fx, fy with
  | some v, some w => if es.any (samePair a b) = true then 7 else if (vs.any fun u => onB u.p v.p w.p) = true then 14 else if crossB vs es v.p w.p = true then 15 else if 1024 ≤ es.length then 18 else 0
  | _, _ => 6
def canLinkZ (vs : List Vt) (es : List Eg) (a b : Int) : Int := if rightB vs es = false ∨ (a == b) = true then 1 else canLinkT vs es a b (vs.find? fun v => v.id == a) (vs.find? fun v => v.id == b)
def canAddZ (vs : List Vt) (es : List Eg) (p : Pt) : Int := if rightB vs es = false then 1 else if inB p = false then 5 else if vs.any (fun v => decide (v.p = p)) = true then 7 else
  if es.any (fun e => onB p (atP vs e.a) (atP vs e.b)) = true then 14 else if 512 ≤ vs.length then 18 else 0
theorem vtV_s (i x y : Int) : vtV (some ⟨i, ⟨x, y⟩⟩) = v3 i x y := rfl
theorem vtV_n : vtV none = v3 0 0 0 := rfl
theorem egV_s (i x y : Int) : egV (some ⟨i, x, y⟩) = v3 i x y := rfl
theorem egV_n : egV none = v3 0 0 0 := rfl
set_option maxRecDepth 200000 in
set_option maxHeartbeats 16000000 in
theorem canCut_any (vs : List Vt) (es : List Eg) (A A2 : Option Addr) (n m : Nat) (c c2 : Nat) (F : Nat → Prop) (id : Int) (w : World) (hp : Pl F w A A2 n m c c2 vs es) :
    Calls Try.prog 37 #[plV A A2 n m c c2, .int .i64 id] w fun e w' => e = .returned (.int .i64 (canCutZ vs es id)) ∧ Below w.heap.size w w' := by
  obtain ⟨v, hv⟩ : ∃ v, canCutZ vs es id = v := ⟨_, rfl⟩
  have HV := Lib.hid hv
  rw [hv]; clear hv
  obtain ⟨hn, hm, hs, hs2, hl, hl2, hc2, hcc⟩ := hp
  obtain ⟨b0, o0, H1, f0⟩ := (Own.start w).addSl (hs.ro (by rfl))
  obtain ⟨b9, o9, H, f9⟩ := H1.addSl (hs2.ro (by rfl))
  clear hs hs2 H1
  subst hn hm
  have hrt := fun F w h1 h2 => right_any vs es A A2 vs.length es.length c c2 F w rfl rfl h1 h2 hl hl2 hc2 hcc
  have hed := fun F w h => edge_any es A2 A es.length vs.length c2 c F id w rfl h hl2
  obtain ⟨r, hr⟩ : ∃ r, rightB vs es = r := ⟨_, rfl⟩
  obtain ⟨o, ho⟩ : ∃ o, (es.find? fun v => v.id == id) = o := ⟨_, rfl⟩
  simp only [hr] at hrt
  simp only [ho] at hed
  have HR := Lib.hid hr
  have HO := Lib.hid ho
  clear hr ho
  cases r
  · go_enter Try.func37, Try.ntmps37
    have tk0 : True := trivial
    have tk1 : True := trivial
    have tk2 : True := trivial
    go_wp2_with (first
      | (go_at_call 15; (with_reducible refine (hrt _ _ (by exact H.giveRd m2 f0) (by exact H.giveRd m1 f9)).mono ?_); rintro e w3 ⟨rfl, hb⟩; replace H := H.ext hb; clear hb; dsimp only)
      | (guard_target =~ wpList _ _ _ (_ :: _) _ _; (first | (guard_target =~ wpList _ _ _ (Oper.mk _ (.load _ _) _ _ _ _ :: _) _ _; refine BigFrame.wpList_want rfl (fun K hK => ?_); (refine o_loadNC (row := ?_) rfl rfl H ?_ ?_ ?_ (hK _ _ ?_); rotate_left 1; (repeat first | exact .head _ | apply List.Mem.tail); (focus (intro _; simp; done)); (focus (intro _; simp; done))); clear hK K) | ((guard_target =~ wpList _ _ _ (Oper.mk _ (.box _ _) _ _ _ _ :: _) _ _; refine BigFrame.wpList_want rfl (fun K hK => ?_); refine o_box rfl H rfl (fun w3 b2 he H2 => hK _ _ ?_)); clear hK K he; clear H; (try clear w2); revert w3; intro w2 H; simp [Act.eval, Value.cells, setL, List.getD] at H; (clear tk0; rename Nat => b1))); simp only [Act.put, List.setIfInBounds_toArray, List.set_cons_succ, List.set_cons_zero]))
    go_ret
    exact ⟨ret_i (by rw [← HV.out]; unfold canCutZ; rw [HR.out]; rfl), H.below⟩
  rcases o with _ | ⟨i, x, y⟩
  · simp only [egV_n, Option.isSome_none] at hed
    go_enter Try.func37, Try.ntmps37
    have tk0 : True := trivial
    have tk1 : True := trivial
    have tk2 : True := trivial
    go_wp2_with (first
      | (go_at_call 15; (with_reducible refine (hrt _ _ (by exact H.giveRd m2 f0) (by exact H.giveRd m1 f9)).mono ?_); rintro e w3 ⟨rfl, hb⟩; replace H := H.ext hb; clear hb; dsimp only)
      | (go_at_call 23; (with_reducible refine (hed _ _ (by exact H.giveRd m1 f9)).mono ?_); rintro e w3 ⟨rfl, hb⟩; replace H := H.ext hb; clear hb; dsimp only)
      | (guard_target =~ wpList _ _ _ (_ :: _) _ _; (first | (guard_target =~ wpList _ _ _ (Oper.mk _ (.load _ _) _ _ _ _ :: _) _ _; refine BigFrame.wpList_want rfl (fun K hK => ?_); (refine o_loadNC (row := ?_) rfl rfl H ?_ ?_ ?_ (hK _ _ ?_); rotate_left 1; (repeat first | exact .head _ | apply List.Mem.tail); (focus (intro _; simp; done)); (focus (intro _; simp; done))); clear hK K) | (guard_target =~ wpList _ _ _ (Oper.mk _ (.store _ _ _) _ _ _ _ :: _) _ _; refine BigFrame.wpList_want rfl (fun K hK => ?_); refine o_store (l' := ?_) (row := ?_) rfl rfl H rfl ?_ ?_ ?_ ?_ (fun w3 H2 => hK _ _ ?_); rotate_left 2; (exact r0); (focus (intro _; simp [Act.eval, Value.cells]; done)); (focus (simp [Act.eval, Value.cells]; done)); (exact rfl); clear hK K; clear H; (try clear w2); revert w3; intro w2 H; simp [Act.eval, Value.cells, setL, List.getD] at H) | ((first | (guard_target =~ wpList _ _ _ (Oper.mk _ (.alloc _) _ _ _ _ :: _) _ _; refine BigFrame.wpList_want rfl (fun K hK => ?_); refine o_alloc (z := ?_) rfl ?_ H rfl (fun w3 b2 he H2 => hK _ _ ?_); rotate_left 1; (focus (intro _; simp; with_reducible exact rfl))) | (guard_target =~ wpList _ _ _ (Oper.mk _ (.box _ _) _ _ _ _ :: _) _ _; refine BigFrame.wpList_want rfl (fun K hK => ?_); refine o_box rfl H rfl (fun w3 b2 he H2 => hK _ _ ?_))); clear hK K he; clear H; (try clear w2); revert w3; intro w2 H; simp [Act.eval, Value.cells, setL, List.getD] at H; (first | (clear tk0; rename Nat => b1) | (clear tk1; rename Nat => b2)))); simp only [Act.put, List.setIfInBounds_toArray, List.set_cons_succ, List.set_cons_zero]))
    go_ret
    exact ⟨ret_i (by rw [← HV.out]; unfold canCutZ; rw [HR.out, HO.out]; rfl), H.below⟩
  · simp only [egV_s, Option.isSome_some] at hed
    go_enter Try.func37, Try.ntmps37
    have tk0 : True := trivial
    have tk1 : True := trivial
    have tk2 : True := trivial
    go_wp2_with (first
      | (go_at_call 15; (with_reducible refine (hrt _ _ (by exact H.giveRd m2 f0) (by exact H.giveRd m1 f9)).mono ?_); rintro e w3 ⟨rfl, hb⟩; replace H := H.ext hb; clear hb; dsimp only)
      | (go_at_call 23; (with_reducible refine (hed _ _ (by exact H.giveRd m1 f9)).mono ?_); rintro e w3 ⟨rfl, hb⟩; replace H := H.ext hb; clear hb; dsimp only)
      | (guard_target =~ wpList _ _ _ (_ :: _) _ _; (first | (guard_target =~ wpList _ _ _ (Oper.mk _ (.load _ _) _ _ _ _ :: _) _ _; refine BigFrame.wpList_want rfl (fun K hK => ?_); (refine o_loadNC (row := ?_) rfl rfl H ?_ ?_ ?_ (hK _ _ ?_); rotate_left 1; (repeat first | exact .head _ | apply List.Mem.tail); (focus (intro _; simp; done)); (focus (intro _; simp; done))); clear hK K) | (guard_target =~ wpList _ _ _ (Oper.mk _ (.store _ _ _) _ _ _ _ :: _) _ _; refine BigFrame.wpList_want rfl (fun K hK => ?_); refine o_store (l' := ?_) (row := ?_) rfl rfl H rfl ?_ ?_ ?_ ?_ (fun w3 H2 => hK _ _ ?_); rotate_left 2; (exact r0); (focus (intro _; simp [Act.eval, Value.cells]; done)); (focus (simp [Act.eval, Value.cells]; done)); (exact rfl); clear hK K; clear H; (try clear w2); revert w3; intro w2 H; simp [Act.eval, Value.cells, setL, List.getD] at H) | ((first | (guard_target =~ wpList _ _ _ (Oper.mk _ (.alloc _) _ _ _ _ :: _) _ _; refine BigFrame.wpList_want rfl (fun K hK => ?_); refine o_alloc (z := ?_) rfl ?_ H rfl (fun w3 b2 he H2 => hK _ _ ?_); rotate_left 1; (focus (intro _; simp; with_reducible exact rfl))) | (guard_target =~ wpList _ _ _ (Oper.mk _ (.box _ _) _ _ _ _ :: _) _ _; refine BigFrame.wpList_want rfl (fun K hK => ?_); refine o_box rfl H rfl (fun w3 b2 he H2 => hK _ _ ?_))); clear hK K he; clear H; (try clear w2); revert w3; intro w2 H; simp [Act.eval, Value.cells, setL, List.getD] at H; (first | (clear tk0; rename Nat => b1) | (clear tk1; rename Nat => b2)))); simp only [Act.put, List.setIfInBounds_toArray, List.set_cons_succ, List.set_cons_zero]))
    go_ret
    exact ⟨ret_i (by rw [← HV.out]; unfold canCutZ; rw [HR.out, HO.out]; rfl), H.below⟩
set_option maxRecDepth 200000 in
set_option maxHeartbeats 16000000 in
theorem canDrop_any (vs : List Vt) (es : List Eg) (A A2 : Option Addr) (n m : Nat) (c c2 : Nat) (F : Nat → Prop) (id : Int) (w : World) (hp : Pl F w A A2 n m c c2 vs es) :
    Calls Try.prog 35 #[plV A A2 n m c c2, .int .i64 id] w fun e w' => e = .returned (.int .i64 (canDropZ vs es id)) ∧ Below w.heap.size w w' := by
  obtain ⟨v, hv⟩ : ∃ v, canDropZ vs es id = v := ⟨_, rfl⟩
  have HV := Lib.hid hv
  rw [hv]; clear hv
  obtain ⟨hn, hm, hs, hs2, hl, hl2, hc2, hcc⟩ := hp
  obtain ⟨b0, o0, H1, f0⟩ := (Own.start w).addSl (hs.ro (by rfl))
  obtain ⟨b9, o9, H, f9⟩ := H1.addSl (hs2.ro (by rfl))
  clear hs hs2 H1
  subst hn hm
  have hrt := fun F w h1 h2 => right_any vs es A A2 vs.length es.length c c2 F w rfl rfl h1 h2 hl hl2 hc2 hcc
  have hed := fun F w h => vertex_any vs A A2 vs.length es.length c c2 F id w rfl h hl
  have hdg := fun F w h => degree_any es A2 A es.length vs.length c2 c F id w rfl h hl2
  obtain ⟨r, hr⟩ : ∃ r, rightB vs es = r := ⟨_, rfl⟩
  obtain ⟨o, ho⟩ : ∃ o, (vs.find? fun v => v.id == id) = o := ⟨_, rfl⟩
  obtain ⟨d, hd⟩ : ∃ d, degN es id = d := ⟨_, rfl⟩
  simp only [hr] at hrt
  simp only [ho] at hed
  simp only [hd] at hdg
  have HR := Lib.hid hr
  have HO := Lib.hid ho
  have HD := Lib.hid hd
  clear hr ho hd
  cases r
  · go_enter Try.func35, Try.ntmps35
    have tk0 : True := trivial
    have tk1 : True := trivial
    have tk2 : True := trivial
    go_wp2_with (first
      | (go_at_call 15; (with_reducible refine (hrt _ _ (by exact H.giveRd m2 f0) (by exact H.giveRd m1 f9)).mono ?_); rintro e w3 ⟨rfl, hb⟩; replace H := H.ext hb; clear hb; dsimp only)
      | (guard_target =~ wpList _ _ _ (_ :: _) _ _; (first | (guard_target =~ wpList _ _ _ (Oper.mk _ (.load _ _) _ _ _ _ :: _) _ _; refine BigFrame.wpList_want rfl (fun K hK => ?_); (refine o_loadNC (row := ?_) rfl rfl H ?_ ?_ ?_ (hK _ _ ?_); rotate_left 1; (repeat first | exact .head _ | apply List.Mem.tail); (focus (intro _; simp; done)); (focus (intro _; simp; done))); clear hK K) | ((guard_target =~ wpList _ _ _ (Oper.mk _ (.box _ _) _ _ _ _ :: _) _ _; refine BigFrame.wpList_want rfl (fun K hK => ?_); refine o_box rfl H rfl (fun w3 b2 he H2 => hK _ _ ?_)); clear hK K he; clear H; (try clear w2); revert w3; intro w2 H; simp [Act.eval, Value.cells, setL, List.getD] at H; (clear tk0; rename Nat => b1))); simp only [Act.put, List.setIfInBounds_toArray, List.set_cons_succ, List.set_cons_zero]))
    go_ret
    exact ⟨ret_i (by rw [← HV.out]; unfold canDropZ; rw [HR.out]; rfl), H.below⟩
  rcases o with _ | ⟨i, x, y⟩
  · simp only [vtV_n, Option.isSome_none] at hed
    go_enter Try.func35, Try.ntmps35
    have tk0 : True := trivial
    have tk1 : True := trivial
    have tk2 : True := trivial
    go_wp2_with (first
      | (go_at_call 15; (with_reducible refine (hrt _ _ (by exact H.giveRd m2 f0) (by exact H.giveRd m1 f9)).mono ?_); rintro e w3 ⟨rfl, hb⟩; replace H := H.ext hb; clear hb; dsimp only)
      | (go_at_call 22; (with_reducible refine (hed _ _ (by exact H.giveRd m2 f0)).mono ?_); rintro e w3 ⟨rfl, hb⟩; replace H := H.ext hb; clear hb; dsimp only)
      | (guard_target =~ wpList _ _ _ (_ :: _) _ _; (first | (guard_target =~ wpList _ _ _ (Oper.mk _ (.load _ _) _ _ _ _ :: _) _ _; refine BigFrame.wpList_want rfl (fun K hK => ?_); (refine o_loadNC (row := ?_) rfl rfl H ?_ ?_ ?_ (hK _ _ ?_); rotate_left 1; (repeat first | exact .head _ | apply List.Mem.tail); (focus (intro _; simp; done)); (focus (intro _; simp; done))); clear hK K) | (guard_target =~ wpList _ _ _ (Oper.mk _ (.store _ _ _) _ _ _ _ :: _) _ _; refine BigFrame.wpList_want rfl (fun K hK => ?_); refine o_store (l' := ?_) (row := ?_) rfl rfl H rfl ?_ ?_ ?_ ?_ (fun w3 H2 => hK _ _ ?_); rotate_left 2; (exact r0); (focus (intro _; simp [Act.eval, Value.cells]; done)); (focus (simp [Act.eval, Value.cells]; done)); (exact rfl); clear hK K; clear H; (try clear w2); revert w3; intro w2 H; simp [Act.eval, Value.cells, setL, List.getD] at H) | ((first | (guard_target =~ wpList _ _ _ (Oper.mk _ (.alloc _) _ _ _ _ :: _) _ _; refine BigFrame.wpList_want rfl (fun K hK => ?_); refine o_alloc (z := ?_) rfl ?_ H rfl (fun w3 b2 he H2 => hK _ _ ?_); rotate_left 1; (focus (intro _; simp; with_reducible exact rfl))) | (guard_target =~ wpList _ _ _ (Oper.mk _ (.box _ _) _ _ _ _ :: _) _ _; refine BigFrame.wpList_want rfl (fun K hK => ?_); refine o_box rfl H rfl (fun w3 b2 he H2 => hK _ _ ?_))); clear hK K he; clear H; (try clear w2); revert w3; intro w2 H; simp [Act.eval, Value.cells, setL, List.getD] at H; (first | (clear tk0; rename Nat => b1) | (clear tk1; rename Nat => b2)))); simp only [Act.put, List.setIfInBounds_toArray, List.set_cons_succ, List.set_cons_zero]))
    go_ret
    exact ⟨ret_i (by rw [← HV.out]; unfold canDropZ; rw [HR.out, HO.out]; rfl), H.below⟩
  · simp only [vtV_s, Option.isSome_some] at hed
    obtain ⟨v1, hv1⟩ : ∃ v, decide (0 < d) = v := ⟨_, rfl⟩
    cases v1
    · go_enter Try.func35, Try.ntmps35
      have tk0 : True := trivial
      have tk1 : True := trivial
      have tk2 : True := trivial
      go_wp2_with (first
        | (go_at_call 15; (with_reducible refine (hrt _ _ (by exact H.giveRd m2 f0) (by exact H.giveRd m1 f9)).mono ?_); rintro e w3 ⟨rfl, hb⟩; replace H := H.ext hb; clear hb; dsimp only)
        | (go_at_call 22; (with_reducible refine (hed _ _ (by exact H.giveRd m2 f0)).mono ?_); rintro e w3 ⟨rfl, hb⟩; replace H := H.ext hb; clear hb; dsimp only)
        | (go_at_call 20; (with_reducible refine (hdg _ _ (by exact H.giveRd m2 f9)).mono ?_); rintro e w3 ⟨rfl, hb⟩; replace H := H.ext hb; clear hb; dsimp only)
        | (guard_target =~ wpList _ _ _ (_ :: _) _ _; (first | (guard_target =~ wpList _ _ _ (Oper.mk _ (.load _ _) _ _ _ _ :: _) _ _; refine BigFrame.wpList_want rfl (fun K hK => ?_); (refine o_loadNC (row := ?_) rfl rfl H ?_ ?_ ?_ (hK _ _ ?_); rotate_left 1; (repeat first | exact .head _ | apply List.Mem.tail); (focus (intro _; simp; done)); (focus (intro _; simp; done))); clear hK K) | (guard_target =~ wpList _ _ _ (Oper.mk _ (.store _ _ _) _ _ _ _ :: _) _ _; refine BigFrame.wpList_want rfl (fun K hK => ?_); refine o_store (l' := ?_) (row := ?_) rfl rfl H rfl ?_ ?_ ?_ ?_ (fun w3 H2 => hK _ _ ?_); rotate_left 2; (exact r0); (focus (intro _; simp [Act.eval, Value.cells]; done)); (focus (simp [Act.eval, Value.cells]; done)); (exact rfl); clear hK K; clear H; (try clear w2); revert w3; intro w2 H; simp [Act.eval, Value.cells, setL, List.getD] at H) | ((first | (guard_target =~ wpList _ _ _ (Oper.mk _ (.alloc _) _ _ _ _ :: _) _ _; refine BigFrame.wpList_want rfl (fun K hK => ?_); refine o_alloc (z := ?_) rfl ?_ H rfl (fun w3 b2 he H2 => hK _ _ ?_); rotate_left 1; (focus (intro _; simp; with_reducible exact rfl))) | (guard_target =~ wpList _ _ _ (Oper.mk _ (.box _ _) _ _ _ _ :: _) _ _; refine BigFrame.wpList_want rfl (fun K hK => ?_); refine o_box rfl H rfl (fun w3 b2 he H2 => hK _ _ ?_))); clear hK K he; clear H; (try clear w2); revert w3; intro w2 H; simp [Act.eval, Value.cells, setL, List.getD] at H; (first | (clear tk0; rename Nat => b1) | (clear tk1; rename Nat => b2)))); simp only [Act.put, List.setIfInBounds_toArray, List.set_cons_succ, List.set_cons_zero]))
      go_ret
      exact ⟨ret_i (by rw [← HV.out]; unfold canDropZ; rw [HR.out, HO.out, HD.out]; simp at hv1 ⊢; omega), H.below⟩
    · go_enter Try.func35, Try.ntmps35
      have tk0 : True := trivial
      have tk1 : True := trivial
      have tk2 : True := trivial
      go_wp2_with (first
        | (go_at_call 15; (with_reducible refine (hrt _ _ (by exact H.giveRd m2 f0) (by exact H.giveRd m1 f9)).mono ?_); rintro e w3 ⟨rfl, hb⟩; replace H := H.ext hb; clear hb; dsimp only)
        | (go_at_call 22; (with_reducible refine (hed _ _ (by exact H.giveRd m2 f0)).mono ?_); rintro e w3 ⟨rfl, hb⟩; replace H := H.ext hb; clear hb; dsimp only)
        | (go_at_call 20; (with_reducible refine (hdg _ _ (by exact H.giveRd m2 f9)).mono ?_); rintro e w3 ⟨rfl, hb⟩; replace H := H.ext hb; clear hb; dsimp only)
        | (guard_target =~ wpList _ _ _ (_ :: _) _ _; (first | (guard_target =~ wpList _ _ _ (Oper.mk _ (.load _ _) _ _ _ _ :: _) _ _; refine BigFrame.wpList_want rfl (fun K hK => ?_); (refine o_loadNC (row := ?_) rfl rfl H ?_ ?_ ?_ (hK _ _ ?_); rotate_left 1; (repeat first | exact .head _ | apply List.Mem.tail); (focus (intro _; simp; done)); (focus (intro _; simp; done))); clear hK K) | (guard_target =~ wpList _ _ _ (Oper.mk _ (.store _ _ _) _ _ _ _ :: _) _ _; refine BigFrame.wpList_want rfl (fun K hK => ?_); refine o_store (l' := ?_) (row := ?_) rfl rfl H rfl ?_ ?_ ?_ ?_ (fun w3 H2 => hK _ _ ?_); rotate_left 2; (exact r0); (focus (intro _; simp [Act.eval, Value.cells]; done)); (focus (simp [Act.eval, Value.cells]; done)); (exact rfl); clear hK K; clear H; (try clear w2); revert w3; intro w2 H; simp [Act.eval, Value.cells, setL, List.getD] at H) | ((first | (guard_target =~ wpList _ _ _ (Oper.mk _ (.alloc _) _ _ _ _ :: _) _ _; refine BigFrame.wpList_want rfl (fun K hK => ?_); refine o_alloc (z := ?_) rfl ?_ H rfl (fun w3 b2 he H2 => hK _ _ ?_); rotate_left 1; (focus (intro _; simp; with_reducible exact rfl))) | (guard_target =~ wpList _ _ _ (Oper.mk _ (.box _ _) _ _ _ _ :: _) _ _; refine BigFrame.wpList_want rfl (fun K hK => ?_); refine o_box rfl H rfl (fun w3 b2 he H2 => hK _ _ ?_))); clear hK K he; clear H; (try clear w2); revert w3; intro w2 H; simp [Act.eval, Value.cells, setL, List.getD] at H; (first | (clear tk0; rename Nat => b1) | (clear tk1; rename Nat => b2)))); simp only [Act.put, List.setIfInBounds_toArray, List.set_cons_succ, List.set_cons_zero]))
      go_ret
      exact ⟨ret_i (by rw [← HV.out]; unfold canDropZ; rw [HR.out, HO.out, HD.out]; simp at hv1 ⊢; omega), H.below⟩
end Go.Proofs.Ytbdmfmdkcjfjdaa
