/-
  The walks of plan and of the document: vertices and edges by their numbers, how many edges end at one.
-/
import Derived.Test.YtlhmjhildlnokaaPlan1
namespace Go.Proofs.Ytlhmjhildlnokaa
set_option linter.unusedVariables false
set_option linter.unusedSimpArgs false
open Go.RowKit

def vtV : Option Vt → Value
  | some v => v3 v.id v.p.x v.p.y
  | none => v3 0 0 0
def egV : Option Eg → Value
  | some v => v3 v.id v.a v.b
  | none => v3 0 0 0
/-- A place, or -1. -/
def ixZ : Option Nat → Int
  | some k => k
  | none => -1
theorem find_here {α : Type} : ∀ {l : List α} {k : Nat} {a : α} {f : α → Bool}, l[k]? = some a → (l.take k).any f = false → f a = true → l.find? f = some a
  | [], k, a, f, h, _, _ => by simp at h
  | b :: l, 0, a, f, h, _, hf => by
    obtain rfl : b = a := by simpa using h
    simp [hf]
  | b :: l, k + 1, a, f, h, h0, hf => by
    simp only [List.take_succ_cons, List.any_cons, Bool.or_eq_false_iff] at h0
    rw [List.find?_cons_of_neg (by rw [h0.1]; simp)]
    exact find_here (by simpa using h) h0.2 hf
theorem idx_here {α : Type} : ∀ {l : List α} {k : Nat} {a : α} {f : α → Bool}, l[k]? = some a → (l.take k).any f = false → f a = true → l.findIdx? f = some k
  | [], k, a, f, h, _, _ => by simp at h
  | b :: l, 0, a, f, h, _, hf => by
    obtain rfl : b = a := by simpa using h
    simp [List.findIdx?_cons, hf]
  | b :: l, k + 1, a, f, h, h0, hf => by
    simp only [List.take_succ_cons, List.any_cons, Bool.or_eq_false_iff] at h0
    rw [List.findIdx?_cons, h0.1, idx_here (l := l) (k := k) (by simpa using h) h0.2 hf]
    rfl
theorem find_no {α : Type} {l : List α} {f : α → Bool} (h : l.any f = false) : l.find? f = none := by
  rw [List.find?_eq_none]
  intro x hx hf
  rw [List.any_eq_false] at h
  exact h x hx hf
theorem idx_no {α : Type} {l : List α} {f : α → Bool} (h : l.any f = false) : l.findIdx? f = none := by
  rw [List.findIdx?_eq_none_iff]
  intro x hx
  rw [List.any_eq_false] at h
  simpa using h x hx
/-- How many ends. -/
def degN : List Eg → Int → Nat
  | [], _ => 0
  | e :: l, n => ((if e.a = n then 1 else 0) + (if e.b = n then 1 else 0)) + degN l n
theorem deg_app (n : Int) : ∀ (l m : List Eg), degN (l ++ m) n = degN l n + degN m n
  | [], m => by simp [degN]
  | e :: l, m => by simp only [List.cons_append, degN, deg_app n l m]; omega
theorem deg_le (n : Int) : ∀ l : List Eg, degN l n ≤ 2 * l.length
  | [] => by simp [degN]
  | e :: l => by have := deg_le n l; simp only [degN, List.length_cons]; split <;> split <;> omega
theorem deg_step {es : List Eg} {k : Nat} {i a b : Int} (h : es[k]? = some ⟨i, a, b⟩) (n : Int) : degN (es.take (k + 1)) n = degN (es.take k) n + ((if a = n then 1 else 0) + (if b = n then 1 else 0)) := by
  rw [List.take_add_one, h, deg_app]; simp [degN]

set_option maxRecDepth 100000 in
set_option maxHeartbeats 4000000 in
theorem vertex_any (vs : List Vt) (A A2 : Option Addr) (n m : Nat) (c c2 : Nat) (F : Nat → Prop) (id : Int) (w : World) (hn : n = vs.length) (hs : Sl F w A (vR vs)) (hl : n ≤ 1000000) :
    Calls Try.prog 60 #[.agg #[.slice A n c, .slice A2 m c2], .int .i64 id] w fun e w' => e = .returned (.tuple #[vtV (vs.find? fun v => v.id == id), .bool (vs.find? fun v => v.id == id).isSome]) ∧ Below w.heap.size w w' := by
  obtain ⟨o, hv⟩ : ∃ o, (vs.find? fun v => v.id == id) = o := ⟨_, rfl⟩
  have HV := Lib.hid hv
  rw [hv]; clear hv
  obtain ⟨b0, o0, H, f0⟩ := (Own.start w).addSl (hs.ro (by rfl))
  clear hs
  subst hn
  generalize hf : (fun v : Vt => v.id == id) = f at HV
  go_enter Try.func60, Try.ntmps60
  have tk0 : True := trivial
  have tk1 : True := trivial
  go_wp2_with (guard_target =~ wpList _ _ _ (_ :: _) _ _; (first | (guard_target =~ wpList _ _ _ (Oper.mk _ (.load _ _) _ _ _ _ :: _) _ _; refine BigFrame.wpList_want rfl (fun K hK => ?_); (refine o_loadC (v := ?_) (row := ?_) rfl rfl H ?_ ?_ ?_ (hK _ _ ?_); rotate_left 2; (repeat first | exact .head _ | apply List.Mem.tail); (exact rfl); (focus (intro _; simp; done))); clear hK K) | ((first | (guard_target =~ wpList _ _ _ (Oper.mk _ (.alloc _) _ _ _ _ :: _) _ _; refine BigFrame.wpList_want rfl (fun K hK => ?_); refine o_alloc (z := ?_) rfl ?_ H rfl (fun w3 b2 he H2 => hK _ _ ?_); rotate_left 1; (focus (intro _; simp; with_reducible exact rfl))) | (guard_target =~ wpList _ _ _ (Oper.mk _ (.box _ _) _ _ _ _ :: _) _ _; refine BigFrame.wpList_want rfl (fun K hK => ?_); refine o_box rfl H rfl (fun w3 b2 he H2 => hK _ _ ?_))); clear hK K he; clear H; (try clear w2); revert w3; intro w2 H; simp [Act.eval, Value.cells, setL, List.getD] at H; (first | (clear tk0; rename Nat => b1) | (clear tk1; rename Nat => b2)))); simp only [Act.put, List.setIfInBounds_toArray, List.set_cons_succ, List.set_cons_zero])
  go_loopg [11] vs.length (fun k i wr => k ≤ vs.length ∧ i = .int .i64 ((vs.length - k : Nat) : Int) ∧ (vs.take (vs.length - k)).any f = false ∧ Own w.heap.size w wr [.cells b2 [.int .i64 0, .int .i64 0, .int .i64 0], .cells b1 [.slice A vs.length c, .slice A2 m c2], .rd A b0 o0 (vR vs)])
  case atStart => exact ⟨Nat.le_refl _, by simp, by simp, H⟩
  case round =>
    clear H
    obtain ⟨hk, rfl, ht, H⟩ := hrel
    have HT := Lib.hid ht
    clear ht
    by_cases hlt : 0 < gk
    · obtain ⟨j, hj⟩ : ∃ j, vs.length - gk = j := ⟨_, rfl⟩
      have hjl : j < vs.length := by omega
      rw [hj] at HT ⊢
      obtain ⟨i, x, y, he⟩ := vt_at vs hjl
      obtain rfl := H.rdAddr m2 (vR_pos he)
      have hp := at_v (A := some ⟨b0, o0, none⟩) (b := b0) (off := o0) he
      obtain ⟨v1, hv1⟩ : ∃ v, (i == id) = v := ⟨_, rfl⟩
      have hfv : f ⟨i, ⟨x, y⟩⟩ = v1 := by rw [← hf]; exact hv1
      have HF := Lib.hid hfv
      have HE := Lib.hid he
      have HJ := Lib.hid hj
      clear hfv he hj hf
      cases v1
      · have tk0 : True := trivial
        go_wp2_with (guard_target =~ wpList _ _ _ (_ :: _) _ _; (first | (guard_target =~ wpList _ _ _ (Oper.mk _ (.load _ _) _ _ _ _ :: _) _ _; refine BigFrame.wpList_want rfl (fun K hK => ?_); (first | (refine o_loadC (v := ?_) (row := ?_) rfl rfl H ?_ ?_ ?_ (hK _ _ ?_); rotate_left 2; (repeat first | exact .head _ | apply List.Mem.tail); (exact rfl); (focus (intro _; simp; done))) | (refine o_loadN (cs := ?_) (r := ?_) rfl rfl H ?_ ?_ ?_ ?_ (hK _ _ ?_); rotate_left 2; (with_reducible assumption); (repeat first | exact .head _ | apply List.Mem.tail); (focus (intro _; simp; done)); (focus (intro _; simp; done)))); clear hK K) | (guard_target =~ wpList _ _ _ (Oper.mk _ (.store _ _ _) _ _ _ _ :: _) _ _; refine BigFrame.wpList_want rfl (fun K hK => ?_); refine o_store (l' := ?_) (row := ?_) rfl rfl H rfl ?_ ?_ ?_ ?_ (fun w3 H2 => hK _ _ ?_); rotate_left 2; (exact r0); (focus (intro _; simp [Act.eval, Value.cells]; done)); (focus (simp [Act.eval, Value.cells]; done)); (exact rfl); clear hK K; clear H; (try clear w2); revert w3; intro w2 H; simp [Act.eval, Value.cells, setL, List.getD] at H) | ((guard_target =~ wpList _ _ _ (Oper.mk _ (.alloc _) _ _ _ _ :: _) _ _; refine BigFrame.wpList_want rfl (fun K hK => ?_); refine o_alloc (z := ?_) rfl ?_ H rfl (fun w3 b2 he H2 => hK _ _ ?_); rotate_left 1; (focus (intro _; simp; with_reducible exact rfl))); clear hK K he; clear H; (try clear w2); revert w3; intro w2 H; simp [Act.eval, Value.cells, setL, List.getD] at H; (clear tk0; rename Nat => b4))); simp only [Act.put, List.setIfInBounds_toArray, List.set_cons_succ, List.set_cons_zero])
        go_roundg (gk - 1)
        case rel => exact ⟨by omega, by have := HJ.out; congr 1; omega, by rw [show vs.length - (gk - 1) = j + 1 by have := HJ.out; omega]; exact any_step HE.out HT.out HF.out, H.tail⟩
        case measure => omega
      · have tk0 : True := trivial
        go_wp2_with (guard_target =~ wpList _ _ _ (_ :: _) _ _; (first | (guard_target =~ wpList _ _ _ (Oper.mk _ (.load _ _) _ _ _ _ :: _) _ _; refine BigFrame.wpList_want rfl (fun K hK => ?_); (first | (refine o_loadC (v := ?_) (row := ?_) rfl rfl H ?_ ?_ ?_ (hK _ _ ?_); rotate_left 2; (repeat first | exact .head _ | apply List.Mem.tail); (exact rfl); (focus (intro _; simp; done))) | (refine o_loadN (cs := ?_) (r := ?_) rfl rfl H ?_ ?_ ?_ ?_ (hK _ _ ?_); rotate_left 2; (with_reducible assumption); (repeat first | exact .head _ | apply List.Mem.tail); (focus (intro _; simp; done)); (focus (intro _; simp; done))) | (refine o_loadNC (row := ?_) rfl rfl H ?_ ?_ ?_ (hK _ _ ?_); rotate_left 1; (repeat first | exact .head _ | apply List.Mem.tail); (focus (intro _; simp; done)); (focus (intro _; simp; done)))); clear hK K) | (guard_target =~ wpList _ _ _ (Oper.mk _ (.store _ _ _) _ _ _ _ :: _) _ _; refine BigFrame.wpList_want rfl (fun K hK => ?_); refine o_store (l' := ?_) (row := ?_) rfl rfl H rfl ?_ ?_ ?_ ?_ (fun w3 H2 => hK _ _ ?_); rotate_left 2; (first | exact r0 | exact r1); (focus (intro _; simp [Act.eval, Value.cells]; done)); (focus (simp [Act.eval, Value.cells]; done)); (exact rfl); clear hK K; clear H; (try clear w2); revert w3; intro w2 H; simp [Act.eval, Value.cells, setL, List.getD] at H) | ((guard_target =~ wpList _ _ _ (Oper.mk _ (.alloc _) _ _ _ _ :: _) _ _; refine BigFrame.wpList_want rfl (fun K hK => ?_); refine o_alloc (z := ?_) rfl ?_ H rfl (fun w3 b2 he H2 => hK _ _ ?_); rotate_left 1; (focus (intro _; simp; with_reducible exact rfl))); clear hK K he; clear H; (try clear w2); revert w3; intro w2 H; simp [Act.eval, Value.cells, setL, List.getD] at H; (clear tk0; rename Nat => b4))); simp only [Act.put, List.setIfInBounds_toArray, List.set_cons_succ, List.set_cons_zero])
        have hr := H.loadVarN (P := Try.prog) (ty := 49) m1 (by simp) (by simp)
        rw [← HV.out, find_here HE.out HT.out HF.out]
        exact bodyPost_ret (v := .tuple #[v3 i x y, .bool true]) (by simp [results, Try.results60, asAddr, hr]) rfl ⟨rfl, H.below⟩
    · obtain rfl : gk = 0 := by omega
      have tk0 : True := trivial
      go_wp2_with (guard_target =~ wpList _ _ _ (_ :: _) _ _; (guard_target =~ wpList _ _ _ (Oper.mk _ (.store _ _ _) _ _ _ _ :: _) _ _; refine BigFrame.wpList_want rfl (fun K hK => ?_); refine o_store (l' := ?_) (row := ?_) rfl rfl H rfl ?_ ?_ ?_ ?_ (fun w3 H2 => hK _ _ ?_); rotate_left 2; (exact r0); (focus (intro _; simp [Act.eval, Value.cells]; done)); (focus (simp [Act.eval, Value.cells]; done)); (exact rfl); clear hK K; clear H; (try clear w2); revert w3; intro w2 H; simp [Act.eval, Value.cells, setL, List.getD] at H); simp only [Act.put, List.setIfInBounds_toArray, List.set_cons_succ, List.set_cons_zero])
      have hr := H.loadVarN (P := Try.prog) (ty := 49) m0 (by simp) (by simp)
      rw [← HV.out, find_no (by rw [← HT.out, Nat.sub_zero, List.take_length])]
      exact bodyPost_ret (v := .tuple #[v3 0 0 0, .bool false]) (by simp [results, Try.results60, asAddr, hr]) rfl ⟨rfl, H.below⟩

set_option maxRecDepth 100000 in
set_option maxHeartbeats 4000000 in
theorem edge_any (es : List Eg) (A A2 : Option Addr) (n m : Nat) (c c2 : Nat) (F : Nat → Prop) (id : Int) (w : World) (hn : n = es.length) (hs : Sl F w A (eR es)) (hl : n ≤ 1000000) :
    Calls Try.prog 59 #[.agg #[.slice A2 m c2, .slice A n c], .int .i64 id] w fun e w' => e = .returned (.tuple #[egV (es.find? fun v => v.id == id), .bool (es.find? fun v => v.id == id).isSome]) ∧ Below w.heap.size w w' := by
  obtain ⟨o, hv⟩ : ∃ o, (es.find? fun v => v.id == id) = o := ⟨_, rfl⟩
  have HV := Lib.hid hv
  rw [hv]; clear hv
  obtain ⟨b0, o0, H, f0⟩ := (Own.start w).addSl (hs.ro (by rfl))
  clear hs
  subst hn
  generalize hf : (fun v : Eg => v.id == id) = f at HV
  go_enter Try.func59, Try.ntmps59
  have tk0 : True := trivial
  have tk1 : True := trivial
  go_wp2_with (guard_target =~ wpList _ _ _ (_ :: _) _ _; (first | (guard_target =~ wpList _ _ _ (Oper.mk _ (.load _ _) _ _ _ _ :: _) _ _; refine BigFrame.wpList_want rfl (fun K hK => ?_); (refine o_loadC (v := ?_) (row := ?_) rfl rfl H ?_ ?_ ?_ (hK _ _ ?_); rotate_left 2; (repeat first | exact .head _ | apply List.Mem.tail); (exact rfl); (focus (intro _; simp; done))); clear hK K) | ((first | (guard_target =~ wpList _ _ _ (Oper.mk _ (.alloc _) _ _ _ _ :: _) _ _; refine BigFrame.wpList_want rfl (fun K hK => ?_); refine o_alloc (z := ?_) rfl ?_ H rfl (fun w3 b2 he H2 => hK _ _ ?_); rotate_left 1; (focus (intro _; simp; with_reducible exact rfl))) | (guard_target =~ wpList _ _ _ (Oper.mk _ (.box _ _) _ _ _ _ :: _) _ _; refine BigFrame.wpList_want rfl (fun K hK => ?_); refine o_box rfl H rfl (fun w3 b2 he H2 => hK _ _ ?_))); clear hK K he; clear H; (try clear w2); revert w3; intro w2 H; simp [Act.eval, Value.cells, setL, List.getD] at H; (first | (clear tk0; rename Nat => b1) | (clear tk1; rename Nat => b2)))); simp only [Act.put, List.setIfInBounds_toArray, List.set_cons_succ, List.set_cons_zero])
  go_loopg [11] es.length (fun k i wr => k ≤ es.length ∧ i = .int .i64 ((es.length - k : Nat) : Int) ∧ (es.take (es.length - k)).any f = false ∧ Own w.heap.size w wr [.cells b2 [.int .i64 0, .int .i64 0, .int .i64 0], .cells b1 [.slice A2 m c2, .slice A es.length c], .rd A b0 o0 (eR es)])
  case atStart => exact ⟨Nat.le_refl _, by simp, by simp, H⟩
  case round =>
    clear H
    obtain ⟨hk, rfl, ht, H⟩ := hrel
    have HT := Lib.hid ht
    clear ht
    by_cases hlt : 0 < gk
    · obtain ⟨j, hj⟩ : ∃ j, es.length - gk = j := ⟨_, rfl⟩
      have hjl : j < es.length := by omega
      rw [hj] at HT ⊢
      obtain ⟨i, x, y, he⟩ := eg_at es hjl
      obtain rfl := H.rdAddr m2 (eR_pos he)
      have hp := at_e (A := some ⟨b0, o0, none⟩) (b := b0) (off := o0) he
      obtain ⟨v1, hv1⟩ : ∃ v, (i == id) = v := ⟨_, rfl⟩
      have hfv : f ⟨i, x, y⟩ = v1 := by rw [← hf]; exact hv1
      have HF := Lib.hid hfv
      have HE := Lib.hid he
      have HJ := Lib.hid hj
      clear hfv he hj hf
      cases v1
      · have tk0 : True := trivial
        go_wp2_with (guard_target =~ wpList _ _ _ (_ :: _) _ _; (first | (guard_target =~ wpList _ _ _ (Oper.mk _ (.load _ _) _ _ _ _ :: _) _ _; refine BigFrame.wpList_want rfl (fun K hK => ?_); (first | (refine o_loadC (v := ?_) (row := ?_) rfl rfl H ?_ ?_ ?_ (hK _ _ ?_); rotate_left 2; (repeat first | exact .head _ | apply List.Mem.tail); (exact rfl); (focus (intro _; simp; done))) | (refine o_loadN (cs := ?_) (r := ?_) rfl rfl H ?_ ?_ ?_ ?_ (hK _ _ ?_); rotate_left 2; (with_reducible assumption); (repeat first | exact .head _ | apply List.Mem.tail); (focus (intro _; simp; done)); (focus (intro _; simp; done)))); clear hK K) | (guard_target =~ wpList _ _ _ (Oper.mk _ (.store _ _ _) _ _ _ _ :: _) _ _; refine BigFrame.wpList_want rfl (fun K hK => ?_); refine o_store (l' := ?_) (row := ?_) rfl rfl H rfl ?_ ?_ ?_ ?_ (fun w3 H2 => hK _ _ ?_); rotate_left 2; (exact r0); (focus (intro _; simp [Act.eval, Value.cells]; done)); (focus (simp [Act.eval, Value.cells]; done)); (exact rfl); clear hK K; clear H; (try clear w2); revert w3; intro w2 H; simp [Act.eval, Value.cells, setL, List.getD] at H) | ((guard_target =~ wpList _ _ _ (Oper.mk _ (.alloc _) _ _ _ _ :: _) _ _; refine BigFrame.wpList_want rfl (fun K hK => ?_); refine o_alloc (z := ?_) rfl ?_ H rfl (fun w3 b2 he H2 => hK _ _ ?_); rotate_left 1; (focus (intro _; simp; with_reducible exact rfl))); clear hK K he; clear H; (try clear w2); revert w3; intro w2 H; simp [Act.eval, Value.cells, setL, List.getD] at H; (clear tk0; rename Nat => b4))); simp only [Act.put, List.setIfInBounds_toArray, List.set_cons_succ, List.set_cons_zero])
        go_roundg (gk - 1)
        case rel => exact ⟨by omega, by have := HJ.out; congr 1; omega, by rw [show es.length - (gk - 1) = j + 1 by have := HJ.out; omega]; exact any_step HE.out HT.out HF.out, H.tail⟩
        case measure => omega
      · have tk0 : True := trivial
        go_wp2_with (guard_target =~ wpList _ _ _ (_ :: _) _ _; (first | (guard_target =~ wpList _ _ _ (Oper.mk _ (.load _ _) _ _ _ _ :: _) _ _; refine BigFrame.wpList_want rfl (fun K hK => ?_); (first | (refine o_loadC (v := ?_) (row := ?_) rfl rfl H ?_ ?_ ?_ (hK _ _ ?_); rotate_left 2; (repeat first | exact .head _ | apply List.Mem.tail); (exact rfl); (focus (intro _; simp; done))) | (refine o_loadN (cs := ?_) (r := ?_) rfl rfl H ?_ ?_ ?_ ?_ (hK _ _ ?_); rotate_left 2; (with_reducible assumption); (repeat first | exact .head _ | apply List.Mem.tail); (focus (intro _; simp; done)); (focus (intro _; simp; done))) | (refine o_loadNC (row := ?_) rfl rfl H ?_ ?_ ?_ (hK _ _ ?_); rotate_left 1; (repeat first | exact .head _ | apply List.Mem.tail); (focus (intro _; simp; done)); (focus (intro _; simp; done)))); clear hK K) | (guard_target =~ wpList _ _ _ (Oper.mk _ (.store _ _ _) _ _ _ _ :: _) _ _; refine BigFrame.wpList_want rfl (fun K hK => ?_); refine o_store (l' := ?_) (row := ?_) rfl rfl H rfl ?_ ?_ ?_ ?_ (fun w3 H2 => hK _ _ ?_); rotate_left 2; (first | exact r0 | exact r1); (focus (intro _; simp [Act.eval, Value.cells]; done)); (focus (simp [Act.eval, Value.cells]; done)); (exact rfl); clear hK K; clear H; (try clear w2); revert w3; intro w2 H; simp [Act.eval, Value.cells, setL, List.getD] at H) | ((guard_target =~ wpList _ _ _ (Oper.mk _ (.alloc _) _ _ _ _ :: _) _ _; refine BigFrame.wpList_want rfl (fun K hK => ?_); refine o_alloc (z := ?_) rfl ?_ H rfl (fun w3 b2 he H2 => hK _ _ ?_); rotate_left 1; (focus (intro _; simp; with_reducible exact rfl))); clear hK K he; clear H; (try clear w2); revert w3; intro w2 H; simp [Act.eval, Value.cells, setL, List.getD] at H; (clear tk0; rename Nat => b4))); simp only [Act.put, List.setIfInBounds_toArray, List.set_cons_succ, List.set_cons_zero])
        have hr := H.loadVarN (P := Try.prog) (ty := 79) m1 (by simp) (by simp)
        rw [← HV.out, find_here HE.out HT.out HF.out]
        exact bodyPost_ret (v := .tuple #[v3 i x y, .bool true]) (by simp [results, Try.results59, asAddr, hr]) rfl ⟨rfl, H.below⟩
    · obtain rfl : gk = 0 := by omega
      have tk0 : True := trivial
      go_wp2_with (guard_target =~ wpList _ _ _ (_ :: _) _ _; (guard_target =~ wpList _ _ _ (Oper.mk _ (.store _ _ _) _ _ _ _ :: _) _ _; refine BigFrame.wpList_want rfl (fun K hK => ?_); refine o_store (l' := ?_) (row := ?_) rfl rfl H rfl ?_ ?_ ?_ ?_ (fun w3 H2 => hK _ _ ?_); rotate_left 2; (exact r0); (focus (intro _; simp [Act.eval, Value.cells]; done)); (focus (simp [Act.eval, Value.cells]; done)); (exact rfl); clear hK K; clear H; (try clear w2); revert w3; intro w2 H; simp [Act.eval, Value.cells, setL, List.getD] at H); simp only [Act.put, List.setIfInBounds_toArray, List.set_cons_succ, List.set_cons_zero])
      have hr := H.loadVarN (P := Try.prog) (ty := 79) m0 (by simp) (by simp)
      rw [← HV.out, find_no (by rw [← HT.out, Nat.sub_zero, List.take_length])]
      exact bodyPost_ret (v := .tuple #[v3 0 0 0, .bool false]) (by simp [results, Try.results59, asAddr, hr]) rfl ⟨rfl, H.below⟩

set_option maxRecDepth 100000 in
set_option maxHeartbeats 4000000 in
theorem refVertex_any (vs : List Vt) (A A2 : Option Addr) (n m : Nat) (c c2 : Nat) (F : Nat → Prop) (id : Int) (w : World) (hn : n = vs.length) (hs : Sl F w A (vR vs)) (hl : n ≤ 1000000) :
    Calls Try.prog 49 #[.agg #[.slice A n c, .slice A2 m c2], .int .i64 id] w fun e w' => e = .returned (.int .i64 (ixZ (vs.findIdx? fun v => v.id == id))) ∧ Below w.heap.size w w' := by
  obtain ⟨o, hv⟩ : ∃ o, (vs.findIdx? fun v => v.id == id) = o := ⟨_, rfl⟩
  have HV := Lib.hid hv
  rw [hv]; clear hv
  obtain ⟨b0, o0, H, f0⟩ := (Own.start w).addSl (hs.ro (by rfl))
  clear hs
  subst hn
  generalize hf : (fun v : Vt => v.id == id) = f at HV
  go_enter Try.func49, Try.ntmps49
  have tk0 : True := trivial
  go_wp2_with (guard_target =~ wpList _ _ _ (_ :: _) _ _; ((guard_target =~ wpList _ _ _ (Oper.mk _ (.box _ _) _ _ _ _ :: _) _ _; refine BigFrame.wpList_want rfl (fun K hK => ?_); refine o_box rfl H rfl (fun w3 b2 he H2 => hK _ _ ?_)); clear hK K he; clear H; (try clear w2); revert w3; intro w2 H; simp [Act.eval, Value.cells, setL, List.getD] at H; (clear tk0; rename Nat => b1)); simp only [Act.put, List.setIfInBounds_toArray, List.set_cons_succ, List.set_cons_zero])
  go_loopg [5] vs.length (fun k i wr => k ≤ vs.length ∧ i = .int .i64 ((vs.length - k : Nat) : Int) ∧ (vs.take (vs.length - k)).any f = false ∧ Own w.heap.size w wr [.cells b1 [.slice A vs.length c, .slice A2 m c2], .rd A b0 o0 (vR vs)])
  case atStart => exact ⟨Nat.le_refl _, by simp, by simp, H⟩
  case round =>
    clear H
    obtain ⟨hk, rfl, ht, H⟩ := hrel
    have HT := Lib.hid ht
    clear ht
    by_cases hlt : 0 < gk
    · obtain ⟨j, hj⟩ : ∃ j, vs.length - gk = j := ⟨_, rfl⟩
      have hjl : j < vs.length := by omega
      rw [hj] at HT ⊢
      obtain ⟨i, x, y, he⟩ := vt_at vs hjl
      obtain rfl := H.rdAddr m1 (vR_pos he)
      have hp := at_vid (A := some ⟨b0, o0, none⟩) (b := b0) (off := o0) he
      obtain ⟨v1, hv1⟩ : ∃ v, (i == id) = v := ⟨_, rfl⟩
      have hfv : f ⟨i, ⟨x, y⟩⟩ = v1 := by rw [← hf]; exact hv1
      have HF := Lib.hid hfv
      have HE := Lib.hid he
      have HJ := Lib.hid hj
      clear hfv he hj hf
      cases v1
      · have tk0 : True := trivial
        go_wp2_with (guard_target =~ wpList _ _ _ (_ :: _) _ _; (guard_target =~ wpList _ _ _ (Oper.mk _ (.load _ _) _ _ _ _ :: _) _ _; refine BigFrame.wpList_want rfl (fun K hK => ?_); (first | (refine o_load (v := ?_) (r := ?_) rfl rfl H ?_ ?_ ?_ (hK _ _ ?_); rotate_left 2; (with_reducible assumption); (repeat first | exact .head _ | apply List.Mem.tail); (focus (intro _; simp; done))) | (refine o_loadC (v := ?_) (row := ?_) rfl rfl H ?_ ?_ ?_ (hK _ _ ?_); rotate_left 2; (repeat first | exact .head _ | apply List.Mem.tail); (exact rfl); (focus (intro _; simp; done)))); clear hK K); simp only [Act.put, List.setIfInBounds_toArray, List.set_cons_succ, List.set_cons_zero])
        go_roundg (gk - 1)
        case rel => exact ⟨by omega, by have := HJ.out; congr 1; omega, by rw [show vs.length - (gk - 1) = j + 1 by have := HJ.out; omega]; exact any_step HE.out HT.out HF.out, H⟩
        case measure => omega
      · have tk0 : True := trivial
        go_wp2_with (guard_target =~ wpList _ _ _ (_ :: _) _ _; (guard_target =~ wpList _ _ _ (Oper.mk _ (.load _ _) _ _ _ _ :: _) _ _; refine BigFrame.wpList_want rfl (fun K hK => ?_); (first | (refine o_load (v := ?_) (r := ?_) rfl rfl H ?_ ?_ ?_ (hK _ _ ?_); rotate_left 2; (with_reducible assumption); (repeat first | exact .head _ | apply List.Mem.tail); (focus (intro _; simp; done))) | (refine o_loadC (v := ?_) (row := ?_) rfl rfl H ?_ ?_ ?_ (hK _ _ ?_); rotate_left 2; (repeat first | exact .head _ | apply List.Mem.tail); (exact rfl); (focus (intro _; simp; done)))); clear hK K); simp only [Act.put, List.setIfInBounds_toArray, List.set_cons_succ, List.set_cons_zero])
        go_ret
        exact ⟨ret_i (by rw [← HV.out, idx_here HE.out HT.out HF.out]; rfl), H.below⟩
    · obtain rfl : gk = 0 := by omega
      have tk0 : True := trivial
      go_wp2_with (guard_target =~ wpList _ _ _ (_ :: _) _ _; (guard_target =~ wpList _ _ _ (Oper.mk _ (.load _ _) _ _ _ _ :: _) _ _; refine BigFrame.wpList_want rfl (fun K hK => ?_); (refine o_loadC (v := ?_) (row := ?_) rfl rfl H ?_ ?_ ?_ (hK _ _ ?_); rotate_left 2; (repeat first | exact .head _ | apply List.Mem.tail); (exact rfl); (focus (intro _; simp; done))); clear hK K); simp only [Act.put, List.setIfInBounds_toArray, List.set_cons_succ, List.set_cons_zero])
      go_ret
      exact ⟨ret_i (by rw [← HV.out, idx_no (by rw [← HT.out, Nat.sub_zero, List.take_length])]; rfl), H.below⟩

set_option maxRecDepth 100000 in
set_option maxHeartbeats 4000000 in
theorem refEdge_any (es : List Eg) (A A2 : Option Addr) (n m : Nat) (c c2 : Nat) (F : Nat → Prop) (id : Int) (w : World) (hn : n = es.length) (hs : Sl F w A (eR es)) (hl : n ≤ 1000000) :
    Calls Try.prog 30 #[.agg #[.slice A2 m c2, .slice A n c], .int .i64 id] w fun e w' => e = .returned (.int .i64 (ixZ (es.findIdx? fun v => v.id == id))) ∧ Below w.heap.size w w' := by
  obtain ⟨o, hv⟩ : ∃ o, (es.findIdx? fun v => v.id == id) = o := ⟨_, rfl⟩
  have HV := Lib.hid hv
  rw [hv]; clear hv
  obtain ⟨b0, o0, H, f0⟩ := (Own.start w).addSl (hs.ro (by rfl))
  clear hs
  subst hn
  generalize hf : (fun v : Eg => v.id == id) = f at HV
  go_enter Try.func30, Try.ntmps30
  have tk0 : True := trivial
  go_wp2_with (guard_target =~ wpList _ _ _ (_ :: _) _ _; ((guard_target =~ wpList _ _ _ (Oper.mk _ (.box _ _) _ _ _ _ :: _) _ _; refine BigFrame.wpList_want rfl (fun K hK => ?_); refine o_box rfl H rfl (fun w3 b2 he H2 => hK _ _ ?_)); clear hK K he; clear H; (try clear w2); revert w3; intro w2 H; simp [Act.eval, Value.cells, setL, List.getD] at H; (clear tk0; rename Nat => b1)); simp only [Act.put, List.setIfInBounds_toArray, List.set_cons_succ, List.set_cons_zero])
  go_loopg [5] es.length (fun k i wr => k ≤ es.length ∧ i = .int .i64 ((es.length - k : Nat) : Int) ∧ (es.take (es.length - k)).any f = false ∧ Own w.heap.size w wr [.cells b1 [.slice A2 m c2, .slice A es.length c], .rd A b0 o0 (eR es)])
  case atStart => exact ⟨Nat.le_refl _, by simp, by simp, H⟩
  case round =>
    clear H
    obtain ⟨hk, rfl, ht, H⟩ := hrel
    have HT := Lib.hid ht
    clear ht
    by_cases hlt : 0 < gk
    · obtain ⟨j, hj⟩ : ∃ j, es.length - gk = j := ⟨_, rfl⟩
      have hjl : j < es.length := by omega
      rw [hj] at HT ⊢
      obtain ⟨i, x, y, he⟩ := eg_at es hjl
      obtain rfl := H.rdAddr m1 (eR_pos he)
      have hp := at_eid (A := some ⟨b0, o0, none⟩) (b := b0) (off := o0) he
      obtain ⟨v1, hv1⟩ : ∃ v, (i == id) = v := ⟨_, rfl⟩
      have hfv : f ⟨i, x, y⟩ = v1 := by rw [← hf]; exact hv1
      have HF := Lib.hid hfv
      have HE := Lib.hid he
      have HJ := Lib.hid hj
      clear hfv he hj hf
      cases v1
      · have tk0 : True := trivial
        go_wp2_with (guard_target =~ wpList _ _ _ (_ :: _) _ _; (guard_target =~ wpList _ _ _ (Oper.mk _ (.load _ _) _ _ _ _ :: _) _ _; refine BigFrame.wpList_want rfl (fun K hK => ?_); (first | (refine o_load (v := ?_) (r := ?_) rfl rfl H ?_ ?_ ?_ (hK _ _ ?_); rotate_left 2; (with_reducible assumption); (repeat first | exact .head _ | apply List.Mem.tail); (focus (intro _; simp; done))) | (refine o_loadC (v := ?_) (row := ?_) rfl rfl H ?_ ?_ ?_ (hK _ _ ?_); rotate_left 2; (repeat first | exact .head _ | apply List.Mem.tail); (exact rfl); (focus (intro _; simp; done)))); clear hK K); simp only [Act.put, List.setIfInBounds_toArray, List.set_cons_succ, List.set_cons_zero])
        go_roundg (gk - 1)
        case rel => exact ⟨by omega, by have := HJ.out; congr 1; omega, by rw [show es.length - (gk - 1) = j + 1 by have := HJ.out; omega]; exact any_step HE.out HT.out HF.out, H⟩
        case measure => omega
      · have tk0 : True := trivial
        go_wp2_with (guard_target =~ wpList _ _ _ (_ :: _) _ _; (guard_target =~ wpList _ _ _ (Oper.mk _ (.load _ _) _ _ _ _ :: _) _ _; refine BigFrame.wpList_want rfl (fun K hK => ?_); (first | (refine o_load (v := ?_) (r := ?_) rfl rfl H ?_ ?_ ?_ (hK _ _ ?_); rotate_left 2; (with_reducible assumption); (repeat first | exact .head _ | apply List.Mem.tail); (focus (intro _; simp; done))) | (refine o_loadC (v := ?_) (row := ?_) rfl rfl H ?_ ?_ ?_ (hK _ _ ?_); rotate_left 2; (repeat first | exact .head _ | apply List.Mem.tail); (exact rfl); (focus (intro _; simp; done)))); clear hK K); simp only [Act.put, List.setIfInBounds_toArray, List.set_cons_succ, List.set_cons_zero])
        go_ret
        exact ⟨ret_i (by rw [← HV.out, idx_here HE.out HT.out HF.out]; rfl), H.below⟩
    · obtain rfl : gk = 0 := by omega
      have tk0 : True := trivial
      go_wp2_with (guard_target =~ wpList _ _ _ (_ :: _) _ _; (guard_target =~ wpList _ _ _ (Oper.mk _ (.load _ _) _ _ _ _ :: _) _ _; refine BigFrame.wpList_want rfl (fun K hK => ?_); (refine o_loadC (v := ?_) (row := ?_) rfl rfl H ?_ ?_ ?_ (hK _ _ ?_); rotate_left 2; (repeat first | exact .head _ | apply List.Mem.tail); (exact rfl); (focus (intro _; simp; done))); clear hK K); simp only [Act.put, List.setIfInBounds_toArray, List.set_cons_succ, List.set_cons_zero])
      go_ret
      exact ⟨ret_i (by rw [← HV.out, idx_no (by rw [← HT.out, Nat.sub_zero, List.take_length])]; rfl), H.below⟩

set_option maxRecDepth 100000 in
set_option maxHeartbeats 4000000 in
theorem degree_any (es : List Eg) (A A2 : Option Addr) (n m : Nat) (c c2 : Nat) (F : Nat → Prop) (id : Int) (w : World) (hn : n = es.length) (hs : Sl F w A (eR es)) (hl : n ≤ 1000000) :
    Calls Try.prog 27 #[.agg #[.slice A2 m c2, .slice A n c], .int .i64 id] w fun e w' => e = .returned (.int .i64 (degN es id : Int)) ∧ Below w.heap.size w w' := by
  obtain ⟨o, hv⟩ : ∃ o, degN es id = o := ⟨_, rfl⟩
  have HV := Lib.hid hv
  rw [hv]; clear hv
  obtain ⟨b0, o0, H, f0⟩ := (Own.start w).addSl (hs.ro (by rfl))
  clear hs
  subst hn
  go_enter Try.func27, Try.ntmps27
  have tk0 : True := trivial
  go_wp2_with (guard_target =~ wpList _ _ _ (_ :: _) _ _; (first | (guard_target =~ wpList _ _ _ (Oper.mk _ (.load _ _) _ _ _ _ :: _) _ _; refine BigFrame.wpList_want rfl (fun K hK => ?_); (refine o_loadC (v := ?_) (row := ?_) rfl rfl H ?_ ?_ ?_ (hK _ _ ?_); rotate_left 2; (repeat first | exact .head _ | apply List.Mem.tail); (exact rfl); (focus (intro _; simp; done))); clear hK K) | ((guard_target =~ wpList _ _ _ (Oper.mk _ (.box _ _) _ _ _ _ :: _) _ _; refine BigFrame.wpList_want rfl (fun K hK => ?_); refine o_box rfl H rfl (fun w3 b2 he H2 => hK _ _ ?_)); clear hK K he; clear H; (try clear w2); revert w3; intro w2 H; simp [Act.eval, Value.cells, setL, List.getD] at H; (clear tk0; rename Nat => b1))); simp only [Act.put, List.setIfInBounds_toArray, List.set_cons_succ, List.set_cons_zero])
  go_loopg [11, 5] es.length (fun k i n wr => k ≤ es.length ∧ i = .int .i64 ((es.length - k : Nat) : Int) ∧ (∃ d, n = .int .i64 ((d : Nat) : Int) ∧ d = degN (es.take (es.length - k)) id) ∧ Own w.heap.size w wr [.cells b1 [.slice A2 m c2, .slice A es.length c], .rd A b0 o0 (eR es)])
  case atStart => exact ⟨Nat.le_refl _, by simp, ⟨0, rfl, by simp [degN]⟩, H⟩
  case round =>
    clear H
    obtain ⟨hk, rfl, ⟨d, rfl, ht⟩, H⟩ := hrel
    have hd : d ≤ 2000000 := by
      have := deg_le id (es.take (es.length - gk))
      rw [List.length_take] at this
      omega
    have HT := Lib.hid ht
    clear ht
    by_cases hlt : 0 < gk
    · obtain ⟨j, hj⟩ : ∃ j, es.length - gk = j := ⟨_, rfl⟩
      have hjl : j < es.length := by omega
      rw [hj] at HT ⊢
      obtain ⟨i, x, y, he⟩ := eg_at es hjl
      obtain rfl := H.rdAddr m1 (eR_pos he)
      have hp := at_e (A := some ⟨b0, o0, none⟩) (b := b0) (off := o0) he
      have hst := deg_step he id
      have HE := Lib.hid hst
      have HJ := Lib.hid hj
      clear hst he hj
      obtain ⟨v1, hv1⟩ : ∃ v, (x == id) = v := ⟨_, rfl⟩
      obtain ⟨v2, hv2⟩ : ∃ v, (y == id) = v := ⟨_, rfl⟩
      cases v1 <;> cases v2
      all_goals
        have tk0 : True := trivial
        go_wp2_with (guard_target =~ wpList _ _ _ (_ :: _) _ _; (first | (guard_target =~ wpList _ _ _ (Oper.mk _ (.load _ _) _ _ _ _ :: _) _ _; refine BigFrame.wpList_want rfl (fun K hK => ?_); (first | (refine o_loadC (v := ?_) (row := ?_) rfl rfl H ?_ ?_ ?_ (hK _ _ ?_); rotate_left 2; (repeat first | exact .head _ | apply List.Mem.tail); (exact rfl); (focus (intro _; simp; done))) | (refine o_loadN (cs := ?_) (r := ?_) rfl rfl H ?_ ?_ ?_ ?_ (hK _ _ ?_); rotate_left 2; (with_reducible assumption); (repeat first | exact .head _ | apply List.Mem.tail); (focus (intro _; simp; done)); (focus (intro _; simp; done)))); clear hK K) | (guard_target =~ wpList _ _ _ (Oper.mk _ (.store _ _ _) _ _ _ _ :: _) _ _; refine BigFrame.wpList_want rfl (fun K hK => ?_); refine o_store (l' := ?_) (row := ?_) rfl rfl H rfl ?_ ?_ ?_ ?_ (fun w3 H2 => hK _ _ ?_); rotate_left 2; (exact r0); (focus (intro _; simp [Act.eval, Value.cells]; done)); (focus (simp [Act.eval, Value.cells]; done)); (exact rfl); clear hK K; clear H; (try clear w2); revert w3; intro w2 H; simp [Act.eval, Value.cells, setL, List.getD] at H) | ((guard_target =~ wpList _ _ _ (Oper.mk _ (.alloc _) _ _ _ _ :: _) _ _; refine BigFrame.wpList_want rfl (fun K hK => ?_); refine o_alloc (z := ?_) rfl ?_ H rfl (fun w3 b2 he H2 => hK _ _ ?_); rotate_left 1; (focus (intro _; simp; with_reducible exact rfl))); clear hK K he; clear H; (try clear w2); revert w3; intro w2 H; simp [Act.eval, Value.cells, setL, List.getD] at H; (clear tk0; rename Nat => b4))); simp only [Act.put, List.setIfInBounds_toArray, List.set_cons_succ, List.set_cons_zero])
        go_roundg (gk - 1)
        case rel =>
          refine ⟨by omega, by have := HJ.out; congr 1; omega, ⟨_, by first | rfl | (congr 1; omega), ?_⟩, H.tail⟩
          rw [show es.length - (gk - 1) = j + 1 by have := HJ.out; omega, HE.out, ← HT.out]
          simp only [beq_iff_eq, beq_eq_false_iff_ne, ne_eq] at hv1 hv2
          simp [hv1, hv2]
        case measure => omega
    · obtain rfl : gk = 0 := by omega
      have tk0 : True := trivial
      go_wp2_with (first | fail)
      go_ret
      exact ⟨ret_i (by rw [← HV.out, HT.out, Nat.sub_zero, List.take_length]), H.below⟩

end Go.Proofs.Ytlhmjhildlnokaa
