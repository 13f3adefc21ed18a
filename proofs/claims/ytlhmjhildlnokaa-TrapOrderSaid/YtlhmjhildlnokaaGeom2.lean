/-
  The walks of geom: all, on, meet.
-/
import Derived.Test.YtlhmjhildlnokaaGeom1
namespace Go.Proofs.Ytlhmjhildlnokaa
set_option linter.unusedVariables false
set_option linter.unusedSimpArgs false
open Go.RowKit

/-- The cells of a row of points. -/
def ptL (L : List Pt) : List Value := L.flatMap fun a => [.int .i64 a.x, .int .i64 a.y]
theorem ptL_at : ∀ (L : List Pt) (k : Nat) (h : k < L.length), ((ptL L).drop (k * 2)).take 2 = [.int .i64 L[k].x, .int .i64 L[k].y]
  | [], k, h => by simp at h
  | a :: L, 0, h => by simp [ptL]
  | a :: L, k + 1, h => by
    have := ptL_at L k (by simpa using h)
    simp only [ptL, List.flatMap_cons, Nat.add_mul, Nat.one_mul, List.cons_append, List.nil_append] at this ⊢
    rw [show k * 2 + 2 = (k * 2 + 1) + 1 from rfl]
    simpa using this
theorem all_take (L : List Pt) (k : Nat) (hk : k < L.length) (v : Bool) (hv : inB L[k] = v) : (L.take (k + 1)).all inB = ((L.take k).all inB && v) := by
  rw [List.take_succ_eq_append_getElem hk, List.all_append, ← hv]; simp
theorem all_no (L : List Pt) (k : Nat) (hk : k < L.length) (hv : inB L[k] = false) : L.all inB = false := by
  rw [Bool.eq_false_iff]
  intro h
  have := List.all_eq_true.1 h L[k] (List.getElem_mem hk)
  rw [hv] at this
  cases this
set_option maxRecDepth 100000 in
set_option maxHeartbeats 4000000 in
theorem all_any (L : List Pt) (A : Option Addr) (cap : Nat) (F : Nat → Prop) (w : World) (hs : Sl F w A (ptL L)) (hl : L.length ≤ 1000000) :
    Calls Try.prog 87 #[.slice A L.length cap] w fun e w' => e = .returned (.bool (L.all inB)) ∧ Below w.heap.size w w' := by
  obtain ⟨v, hv⟩ : ∃ v, L.all inB = v := ⟨_, rfl⟩
  have HV := Lib.hid hv
  rw [hv]; clear hv
  obtain ⟨b0, o0, H0, f0⟩ := (Own.start w).addSl (hs.ro (by rfl))
  clear hs
  go_enter Try.func87, Try.ntmps87
  go_wp2_with fail
  go_loopg [7] L.length (fun k i wr => k ≤ L.length ∧ i = .int .i64 ((L.length - k : Nat) : Int) ∧ (L.take (L.length - k)).all inB = true ∧ Own w.heap.size w wr [.rd A b0 o0 (ptL L)])
  case atStart => exact ⟨Nat.le_refl _, by simp, by simp, H0⟩
  case round =>
    clear H0
    obtain ⟨hk, rfl, ht, H⟩ := hrel
    have HT := Lib.hid ht
    clear ht
    by_cases hlt : 0 < gk
    · obtain ⟨j, hj⟩ : ∃ j, L.length - gk = j := ⟨_, rfl⟩
      have hjl : j < L.length := by omega
      rw [hj] at HT ⊢
      obtain rfl := H.rdAddr m0 (by have := ptL_at L j hjl; cases hp : ptL L with | nil => rw [hp] at this; simp at this | cons x l => simp)
      have hp := at_rdN (A := some ⟨b0, o0, none⟩) (b := b0) (off := o0) (xs := ptL L) (j := j * 2) (cs := [.int .i64 L[j].x, .int .i64 L[j].y]) (ptL_at L j hjl)
      have hin := geomIn_any L[j].x L[j].y
      obtain ⟨x, hx⟩ : ∃ x, L[j].x = x := ⟨_, rfl⟩
      obtain ⟨y, hy⟩ : ∃ y, L[j].y = y := ⟨_, rfl⟩
      obtain ⟨v1, hv1⟩ : ∃ v, inB L[j] = v := ⟨_, rfl⟩
      have e1 : inB ⟨L[j].x, L[j].y⟩ = v1 := hv1
      rw [e1] at hin
      rw [hx, hy] at hin hp
      have HV1 := Lib.hid hv1
      have HJ := Lib.hid hj
      clear hx hy hv1 e1 hj
      cases v1
      · go_wp2_with (first
          | (go_at_call 55; (with_reducible refine (hin _).mono ?_); rintro e w3 ⟨rfl, hb⟩; replace H := H.ext hb; clear hb; dsimp only)
          | (guard_target =~ wpList _ _ _ (_ :: _) _ _; (first | (guard_target =~ wpList _ _ _ (Oper.mk _ (.load _ _) _ _ _ _ :: _) _ _; refine BigFrame.wpList_want rfl (fun K hK => ?_); (first | (refine o_loadN (cs := ?_) (r := ?_) rfl rfl H ?_ ?_ ?_ ?_ (hK _ _ ?_); rotate_left 2; (with_reducible assumption); (repeat first | exact .head _ | apply List.Mem.tail); (focus (intro _; simp; done)); (focus (intro _; simp; done))) | (refine o_loadNC (row := ?_) rfl rfl H ?_ ?_ ?_ (hK _ _ ?_); rotate_left 1; (repeat first | exact .head _ | apply List.Mem.tail); (focus (intro _; simp; done)); (focus (intro _; simp; done)))); clear hK K) | (guard_target =~ wpList _ _ _ (Oper.mk _ (.store _ _ _) _ _ _ _ :: _) _ _; refine BigFrame.wpList_want rfl (fun K hK => ?_); refine o_store (l' := ?_) (row := ?_) rfl rfl H rfl ?_ ?_ ?_ ?_ (fun w3 H2 => hK _ _ ?_); rotate_left 2; (exact r0); (focus (intro _; simp [Act.eval, Value.cells]; done)); (focus (simp [Act.eval, Value.cells]; done)); (exact rfl); clear hK K; clear H; (try clear w2); revert w3; intro w2 H; simp [Act.eval, Value.cells, setL, List.getD] at H) | ((guard_target =~ wpList _ _ _ (Oper.mk _ (.alloc _) _ _ _ _ :: _) _ _; refine BigFrame.wpList_want rfl (fun K hK => ?_); refine o_alloc (z := ?_) rfl ?_ H rfl (fun w3 b2 he H2 => hK _ _ ?_); rotate_left 1; (focus (intro _; simp; with_reducible exact rfl))); clear hK K he; clear H; (try clear w2); revert w3; intro w2 H; simp [Act.eval, Value.cells, setL, List.getD] at H)); simp only [Act.put, List.setIfInBounds_toArray, List.set_cons_succ, List.set_cons_zero]))
        go_ret
        exact ⟨ret_b (by rw [← HV.out, all_no L j hjl HV1.out]), H.below⟩
      · go_wp2_with (first
          | (go_at_call 55; (with_reducible refine (hin _).mono ?_); rintro e w3 ⟨rfl, hb⟩; replace H := H.ext hb; clear hb; dsimp only)
          | (guard_target =~ wpList _ _ _ (_ :: _) _ _; (first | (guard_target =~ wpList _ _ _ (Oper.mk _ (.load _ _) _ _ _ _ :: _) _ _; refine BigFrame.wpList_want rfl (fun K hK => ?_); (first | (refine o_loadN (cs := ?_) (r := ?_) rfl rfl H ?_ ?_ ?_ ?_ (hK _ _ ?_); rotate_left 2; (with_reducible assumption); (repeat first | exact .head _ | apply List.Mem.tail); (focus (intro _; simp; done)); (focus (intro _; simp; done))) | (refine o_loadNC (row := ?_) rfl rfl H ?_ ?_ ?_ (hK _ _ ?_); rotate_left 1; (repeat first | exact .head _ | apply List.Mem.tail); (focus (intro _; simp; done)); (focus (intro _; simp; done)))); clear hK K) | (guard_target =~ wpList _ _ _ (Oper.mk _ (.store _ _ _) _ _ _ _ :: _) _ _; refine BigFrame.wpList_want rfl (fun K hK => ?_); refine o_store (l' := ?_) (row := ?_) rfl rfl H rfl ?_ ?_ ?_ ?_ (fun w3 H2 => hK _ _ ?_); rotate_left 2; (exact r0); (focus (intro _; simp [Act.eval, Value.cells]; done)); (focus (simp [Act.eval, Value.cells]; done)); (exact rfl); clear hK K; clear H; (try clear w2); revert w3; intro w2 H; simp [Act.eval, Value.cells, setL, List.getD] at H) | ((guard_target =~ wpList _ _ _ (Oper.mk _ (.alloc _) _ _ _ _ :: _) _ _; refine BigFrame.wpList_want rfl (fun K hK => ?_); refine o_alloc (z := ?_) rfl ?_ H rfl (fun w3 b2 he H2 => hK _ _ ?_); rotate_left 1; (focus (intro _; simp; with_reducible exact rfl))); clear hK K he; clear H; (try clear w2); revert w3; intro w2 H; simp [Act.eval, Value.cells, setL, List.getD] at H)); simp only [Act.put, List.setIfInBounds_toArray, List.set_cons_succ, List.set_cons_zero]))
        go_roundg (gk - 1)
        case rel => exact ⟨by omega, by have := HJ.out; congr 1; omega, by rw [show L.length - (gk - 1) = j + 1 by have := HJ.out; omega, all_take L j hjl _ HV1.out, HT.out]; rfl, H.tail⟩
        case measure => omega
    · obtain rfl : gk = 0 := by omega
      have tk0 : True := trivial
      go_wp2_with (first | fail)
      go_ret
      exact ⟨ret_b (by rw [← HV.out, ← HT.out, Nat.sub_zero, List.take_length]), H.below⟩
theorem in_of {x y : Int} (h : inB ⟨x, y⟩ = true) : InP ⟨x, y⟩ := of_decide_eq_true h
theorem all3 (ax ay bx b_y cx cy : Int) (b : Nat) (w : World) (hs : Sl (fun _ => False) w (some ⟨b, 0, none⟩) [.int .i64 ax, .int .i64 ay, .int .i64 bx, .int .i64 b_y, .int .i64 cx, .int .i64 cy]) :
    Calls Try.prog 87 #[.slice (some ⟨b, 0, none⟩) 3 3] w fun e w' => e = .returned (.bool (inB ⟨ax, ay⟩ && (inB ⟨bx, b_y⟩ && inB ⟨cx, cy⟩))) ∧ Below w.heap.size w w' := by
  have h := all_any [⟨ax, ay⟩, ⟨bx, b_y⟩, ⟨cx, cy⟩] (some ⟨b, 0, none⟩) 3 (fun _ => False) w hs (by simp)
  simpa using h
theorem all4 (ax ay bx b_y cx cy dx dy : Int) (b : Nat) (w : World) (hs : Sl (fun _ => False) w (some ⟨b, 0, none⟩) [.int .i64 ax, .int .i64 ay, .int .i64 bx, .int .i64 b_y, .int .i64 cx, .int .i64 cy, .int .i64 dx, .int .i64 dy]) :
    Calls Try.prog 87 #[.slice (some ⟨b, 0, none⟩) 4 4] w fun e w' => e = .returned (.bool (inB ⟨ax, ay⟩ && (inB ⟨bx, b_y⟩ && (inB ⟨cx, cy⟩ && inB ⟨dx, dy⟩)))) ∧ Below w.heap.size w w' := by
  have h := all_any [⟨ax, ay⟩, ⟨bx, b_y⟩, ⟨cx, cy⟩, ⟨dx, dy⟩] (some ⟨b, 0, none⟩) 4 (fun _ => False) w hs (by simp)
  simpa using h
set_option maxRecDepth 100000 in
set_option maxHeartbeats 4000000 in
theorem on_any (px py ax ay bx b_y : Int) (w : World) :
    Calls Try.prog 79 #[pV px py, pV ax ay, pV bx b_y] w fun e w' => e = .returned (.bool (onB ⟨px, py⟩ ⟨ax, ay⟩ ⟨bx, b_y⟩)) ∧ Below w.heap.size w w' := by
  have H := Own.start w
  have hall := all3 px py ax ay bx b_y
  have hbt := between_any px py ax ay bx b_y
  have e : onB ⟨px, py⟩ ⟨ax, ay⟩ ⟨bx, b_y⟩ = ((inB ⟨px, py⟩ && (inB ⟨ax, ay⟩ && inB ⟨bx, b_y⟩)) && (decide (turnZ ⟨ax, ay⟩ ⟨bx, b_y⟩ ⟨px, py⟩ = 0) && betwB ⟨px, py⟩ ⟨ax, ay⟩ ⟨bx, b_y⟩)) := rfl
  rw [e]; clear e
  generalize betwB ⟨px, py⟩ ⟨ax, ay⟩ ⟨bx, b_y⟩ = v3 at hbt ⊢
  by_cases hin : (inB ⟨px, py⟩ && (inB ⟨ax, ay⟩ && inB ⟨bx, b_y⟩)) = true
  · have hin' := hin
    simp only [Bool.and_eq_true] at hin'
    have ht := turn_any ax ay bx b_y px py (in_of hin'.2.1) (in_of hin'.2.2) (in_of hin'.1)
    rw [hin] at hall ⊢
    clear hin hin'
    generalize turnZ ⟨ax, ay⟩ ⟨bx, b_y⟩ ⟨px, py⟩ = t at ht ⊢
    by_cases h0 : t = 0
    · subst h0
      go_enter Try.func79, Try.ntmps79
      go_wp2_with (first
        | (go_at_call 87; (with_reducible refine (hall _ _ (H.giveCells m0 (fun _ h => h.elim) 0 rfl)).mono ?_); rintro e w3 ⟨rfl, hb⟩; replace H := H.ext hb; clear hb; dsimp only; (skip))
        | (go_at_call 88; (with_reducible refine (ht _).mono ?_); rintro e w3 ⟨rfl, hb⟩; replace H := H.ext hb; clear hb; dsimp only; (skip))
        | (go_at_call 93; (with_reducible refine (hbt _).mono ?_); rintro e w3 ⟨rfl, hb⟩; replace H := H.ext hb; clear hb; dsimp only; (skip))
        | (guard_target =~ wpList _ _ _ (_ :: _) _ _; (first | (guard_target =~ wpList _ _ _ (Oper.mk _ (.load _ _) _ _ _ _ :: _) _ _; refine BigFrame.wpList_want rfl (fun K hK => ?_); (refine o_loadNC (row := ?_) rfl rfl H ?_ ?_ ?_ (hK _ _ ?_); rotate_left 1; (repeat first | exact .head _ | apply List.Mem.tail); (focus (intro _; simp; done)); (focus (intro _; simp; done))); clear hK K) | ((first | (guard_target =~ wpList _ _ _ (Oper.mk _ (.box _ _) _ _ _ _ :: _) _ _; refine BigFrame.wpList_want rfl (fun K hK => ?_); refine o_box rfl H rfl (fun w3 b2 he H2 => hK _ _ ?_)) | (guard_target =~ wpList _ _ _ (Oper.mk _ (.buildSlice _ _ _) _ _ _ _ :: _) _ _; refine BigFrame.wpList_want rfl (fun K hK => ?_); refine o_buildSlice (C := ?_) (E := ?_) rfl rfl H ?_ rfl (fun w3 b2 he H2 => hK _ _ ?_); rotate_left 2; (focus (intro _; simp [go_sem, Instr.buildSlice]; with_reducible exact rfl)))); clear hK K he; clear H; (try clear w2); revert w3; intro w2 H; simp [Act.eval, Value.cells, setL, List.getD] at H)); simp only [Act.put, List.setIfInBounds_toArray, List.set_cons_succ, List.set_cons_zero]))
      go_ret
      exact ⟨by simp, H.below⟩
    · have h1 : (t == 0) = false := by simpa using h0
      rw [show decide (t = 0) = false by simpa using h0]
      clear h0
      go_enter Try.func79, Try.ntmps79
      go_wp2_with (first
        | go_big_skip
        | (go_at_call 87; (with_reducible refine (hall _ _ (H.giveCells m0 (fun _ h => h.elim) 0 rfl)).mono ?_); rintro e w3 ⟨rfl, hb⟩; replace H := H.ext hb; clear hb; dsimp only; (skip))
        | (go_at_call 88; (with_reducible refine (ht _).mono ?_); rintro e w3 ⟨rfl, hb⟩; replace H := H.ext hb; clear hb; dsimp only; (skip))
        | (guard_target =~ wpList _ _ _ (_ :: _) _ _; (first | (guard_target =~ wpList _ _ _ (Oper.mk _ (.load _ _) _ _ _ _ :: _) _ _; refine BigFrame.wpList_want rfl (fun K hK => ?_); (refine o_loadNC (row := ?_) rfl rfl H ?_ ?_ ?_ (hK _ _ ?_); rotate_left 1; (repeat first | exact .head _ | apply List.Mem.tail); (focus (intro _; simp; done)); (focus (intro _; simp; done))); clear hK K) | ((first | (guard_target =~ wpList _ _ _ (Oper.mk _ (.box _ _) _ _ _ _ :: _) _ _; refine BigFrame.wpList_want rfl (fun K hK => ?_); refine o_box rfl H rfl (fun w3 b2 he H2 => hK _ _ ?_)) | (guard_target =~ wpList _ _ _ (Oper.mk _ (.buildSlice _ _ _) _ _ _ _ :: _) _ _; refine BigFrame.wpList_want rfl (fun K hK => ?_); refine o_buildSlice (C := ?_) (E := ?_) rfl rfl H ?_ rfl (fun w3 b2 he H2 => hK _ _ ?_); rotate_left 2; (focus (intro _; simp [go_sem, Instr.buildSlice]; with_reducible exact rfl)))); clear hK K he; clear H; (try clear w2); revert w3; intro w2 H; simp [Act.eval, Value.cells, setL, List.getD] at H)); simp only [Act.put, List.setIfInBounds_toArray, List.set_cons_succ, List.set_cons_zero]))
      go_ret
      exact ⟨by simp, H.below⟩
  · rw [Bool.not_eq_true] at hin
    rw [hin] at hall ⊢
    clear hin
    go_enter Try.func79, Try.ntmps79
    go_wp2_with (first
      | go_big_skip
      | (go_at_call 87; (with_reducible refine (hall _ _ (H.giveCells m0 (fun _ h => h.elim) 0 rfl)).mono ?_); rintro e w3 ⟨rfl, hb⟩; replace H := H.ext hb; clear hb; dsimp only; (skip))
      | (guard_target =~ wpList _ _ _ (_ :: _) _ _; (first | (guard_target =~ wpList _ _ _ (Oper.mk _ (.load _ _) _ _ _ _ :: _) _ _; refine BigFrame.wpList_want rfl (fun K hK => ?_); (refine o_loadNC (row := ?_) rfl rfl H ?_ ?_ ?_ (hK _ _ ?_); rotate_left 1; (repeat first | exact .head _ | apply List.Mem.tail); (focus (intro _; simp; done)); (focus (intro _; simp; done))); clear hK K) | ((first | (guard_target =~ wpList _ _ _ (Oper.mk _ (.box _ _) _ _ _ _ :: _) _ _; refine BigFrame.wpList_want rfl (fun K hK => ?_); refine o_box rfl H rfl (fun w3 b2 he H2 => hK _ _ ?_)) | (guard_target =~ wpList _ _ _ (Oper.mk _ (.buildSlice _ _ _) _ _ _ _ :: _) _ _; refine BigFrame.wpList_want rfl (fun K hK => ?_); refine o_buildSlice (C := ?_) (E := ?_) rfl rfl H ?_ rfl (fun w3 b2 he H2 => hK _ _ ?_); rotate_left 2; (focus (intro _; simp [go_sem, Instr.buildSlice]; with_reducible exact rfl)))); clear hK K he; clear H; (try clear w2); revert w3; intro w2 H; simp [Act.eval, Value.cells, setL, List.getD] at H)); simp only [Act.put, List.setIfInBounds_toArray, List.set_cons_succ, List.set_cons_zero]))
    go_ret
    exact ⟨by simp, H.below⟩
end Go.Proofs.Ytlhmjhildlnokaa
