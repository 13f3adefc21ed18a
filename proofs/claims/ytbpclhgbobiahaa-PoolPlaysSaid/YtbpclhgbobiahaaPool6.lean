/-
  The walks of the document's pool: find, without, Get, Pin, Clean, Drop.
-/
import Derived.Test.YtbpclhgbobiahaaPool5
import Derived.Test.YtbpclhgbobiahaaOwnG
namespace Go.Proofs.Ytbpclhgbobiahaa
set_option linter.unusedVariables false
set_option linter.unusedSimpArgs false
open Go.RowKit

section
variable {w w0 : World} {B : Nat} {l : List Res} {bq b r n c : Nat} {room : Int} {rf R1 R2 : List Rf} {g : Rf} {no : Int} {s : ByteArray} {A : Option Addr}
abbrev f4 (g : Rf) : List Value := [.int .i64 g.no, .string g.s, .bool g.d, .int .i64 g.p]
def fR (l : List Rf) : List Value := l.flatMap f4
theorem fR_len : ∀ l : List Rf, (fR l).length = l.length * 4
  | [] => rfl
  | a :: l => by
    have := fR_len l
    unfold fR at *
    simp only [List.flatMap_cons, List.length_append, this, List.length_cons, List.length_nil]; omega
theorem fR_at : ∀ (l : List Rf) (k : Nat) (a : Rf), l[k]? = some a → ((fR l).drop (k * 4)).take 4 = f4 a
  | [], k, a, h => by simp at h
  | b :: l, 0, a, h => by
    obtain rfl : b = a := by simpa using h
    simp [fR]
  | b :: l, k + 1, a, h => by
    have := fR_at l k a (by simpa using h)
    have e : fR (b :: l) = f4 b ++ fR l := rfl
    rw [e, show (k + 1) * 4 = 4 + k * 4 by omega, ← List.drop_drop]
    exact this
theorem fR_app (l m : List Rf) : fR (l ++ m) = fR l ++ fR m := by simp [fR]
theorem fR_one (l : List Rf) : (fR l).all (·.oneCell') = true := by
  rw [List.all_eq_true]; intro v hv
  obtain ⟨a, _, ha⟩ := List.mem_flatMap.1 hv
  simp only [f4, List.mem_cons, List.not_mem_nil, or_false] at ha
  rcases ha with rfl | rfl | rfl | rfl <;> rfl
theorem sub_at4 {xs cs : List Value} {j n : Nat} (h : (xs.drop j).take n = cs) (d m : Nat) (hd : d + m ≤ n) : (xs.drop (j + d)).take m = (cs.drop d).take m := by
  rw [← List.drop_drop, ← h, List.drop_take, List.take_take, Nat.min_eq_left (by omega)]
theorem fR_set {d : Nat} {a a' : Rf} {v : Value} (hd : d < 4) (hv : (f4 a).set d v = f4 a') : ∀ (l : List Rf) (k : Nat), l[k]? = some a → (fR l).set (k * 4 + d) v = fR (l.set k a')
  | [], k, h => by simp at h
  | b :: l, 0, h => by
    obtain rfl : b = a := by simpa using h
    have e : ∀ l, fR (b :: l) = f4 b ++ fR l := fun l => rfl
    have e' : fR (a' :: l) = f4 a' ++ fR l := rfl
    rw [e, List.set_cons_zero, e', ← hv, Nat.zero_mul, Nat.zero_add, List.set_append_left _ _ (by simpa using hd)]
  | b :: l, k + 1, h => by
    have := fR_set hd hv l k (by simpa using h)
    have e : ∀ l, fR (b :: l) = f4 b ++ fR l := fun l => rfl
    rw [e, List.set_cons_succ, e, ← this, show (k + 1) * 4 + d = 4 + (k * 4 + d) by omega, List.set_append_right _ _ (by simp)]
    congr 2
    simp
abbrev rB (bq : Nat) (room : Int) (A : Option Addr) (n c : Nat) : Res := .cells bq [.int .i64 room, .slice A n c]
abbrev rG (A : Option Addr) (n c : Nat) (rf : List Rf) : Res := .grow 104 4 (.slice A n c) n (fR rf)
/-- What the document's call has made of its pool. -/
def RQ (B : Nat) (w0 : World) (bq : Nat) (room : Int) (rf : List Rf) (l : List Res) (v : Value) (e : Ending) (w' : World) : Prop :=
  ∃ A n c, e = .returned v ∧ n = rf.length ∧ Own B w0 w' (rB bq room A n c :: rG A n c rf :: l)
/-- The place of a number; -1. -/
def fIdx (rf : List Rf) (no : Int) : Int := match rf.findIdx? (·.no == no) with | some i => (i : Int) | none => -1
theorem fIdx_none (h : no ∉ rf.map (·.no)) : fIdx rf no = -1 := by
  have : rf.findIdx? (·.no == no) = none := by
    rw [List.findIdx?_eq_none_iff]; intro g hg
    cases hb : g.no == no with
    | false => rfl
    | true => exact absurd (List.mem_map.2 ⟨g, hg, by simpa using hb⟩) h
  unfold fIdx; rw [this]
theorem fIdx_mid (h : g.no ∉ R1.map (·.no)) : fIdx (R1 ++ g :: R2) g.no = (R1.length : Int) := by
  have h1 : R1.findIdx? (·.no == g.no) = none := by
    rw [List.findIdx?_eq_none_iff]; intro a ha
    cases hb : a.no == g.no with
    | false => rfl
    | true => exact absurd (List.mem_map.2 ⟨a, ha, by simpa using hb⟩) h
  have : (R1 ++ g :: R2).findIdx? (·.no == g.no) = some R1.length := by
    rw [List.findIdx?_append, h1]; simp [List.findIdx?_cons]
  unfold fIdx; rw [this]
theorem fIdx_here {j : Nat} (h : rf[j]? = some g) (hb : (g.no == no) = true) (h0 : ∀ a ∈ rf.take j, (a.no == no) = false) : fIdx rf no = (j : Int) := by
  have hno : g.no = no := by simpa using hb
  subst hno
  obtain ⟨hlt, rfl⟩ := List.getElem?_eq_some_iff.1 h
  have e : rf = rf.take j ++ rf[j] :: rf.drop (j + 1) := by rw [← List.drop_eq_getElem_cons hlt, List.take_append_drop]
  have := fIdx_mid (R1 := rf.take j) (g := rf[j]) (R2 := rf.drop (j + 1)) (fun hm => by
    obtain ⟨a, ha, he⟩ := List.mem_map.1 hm
    have := h0 a ha
    simp [he] at this)
  rw [← e] at this
  rw [this]; simp; omega
theorem fIdx_end (h0 : ∀ a ∈ rf, (a.no == no) = false) : fIdx rf no = -1 := fIdx_none fun hm => by
  obtain ⟨a, ha, he⟩ := List.mem_map.1 hm
  have := h0 a ha
  simp [he] at this
def FiRel (B : Nat) (w0 : World) (L : List Res) (n : Nat) (rf : List Rf) (no : Int) (k : Nat) (i : Value) (wr : World) : Prop :=
  ∃ j : Nat, j + k = n ∧ i = .int .i64 (j : Int) ∧ (∀ a ∈ rf.take j, (a.no == no) = false) ∧ Own B w0 wr L
set_option maxRecDepth 100000 in
set_option maxHeartbeats 8000000 in
theorem rfind_any (hn : n = rf.length) (hl : n ≤ 1000000) (H : Own B w0 w (rB bq room A n c :: rG A n c rf :: l)) :
    Calls Try.prog 45 #[.pointer (some ⟨bq, 0, none⟩), .int .i64 no] w fun e w' => e = .returned (.int .i64 (fIdx rf no)) ∧ Own B w0 w' (rB bq room A n c :: rG A n c rf :: l) := by
  have HN := Lib.hid hn
  clear hn
  go_enter Try.func45, Try.ntmps45
  go_wp2_with (first
    | go_big_skip
    | (guard_target =~ wpList _ _ _ (_ :: _) _ _; (first | (guard_target =~ wpList _ _ _ (Oper.mk _ (.load _ _) _ _ _ _ :: _) _ _; refine BigFrame.wpList_want rfl (fun K hK => ?_); (first | (refine o_load (v := ?_) (r := ?_) rfl rfl H ?_ ?_ ?_ (hK _ _ ?_); rotate_left 2; (with_reducible assumption); (repeat first | exact .head _ | apply List.Mem.tail); (focus (intro _; simp; done))) | (refine o_loadC (v := ?_) (row := ?_) rfl rfl H ?_ ?_ ?_ (hK _ _ ?_); rotate_left 2; (repeat first | exact .head _ | apply List.Mem.tail); (first | exact rfl | with_reducible assumption); (focus (intro _; simp; done))) | (refine o_loadN (cs := ?_) (r := ?_) rfl rfl H ?_ ?_ ?_ ?_ (hK _ _ ?_); rotate_left 2; (with_reducible assumption); (repeat first | exact .head _ | apply List.Mem.tail); (focus (intro _; simp; done)); (focus (intro _; simp; done))) | (refine o_loadNC (row := ?_) rfl rfl H ?_ ?_ ?_ (hK _ _ ?_); rotate_left 1; (repeat first | exact .head _ | apply List.Mem.tail); (focus (intro _; simp; done)); (focus (intro _; simp; done)))); clear hK K) | (guard_target =~ wpList _ _ _ (Oper.mk _ (.store _ _ _) _ _ _ _ :: _) _ _; refine BigFrame.wpList_want rfl (fun K hK => ?_); refine o_store (l' := ?_) (row := ?_) rfl rfl H rfl ?_ ?_ ?_ ?_ (fun w3 H2 => hK _ _ ?_); rotate_left 2; (first | exact r0 | exact r1 | exact r2 | exact r3 | exact r4 | exact r5 | exact r6 | exact r7 | exact r8 | exact r9 | exact r10 | exact r11 | exact r12 | exact r13 | exact r14 | exact r15); (focus (intro _; simp [Act.eval, Value.cells]; done)); (focus (first | (simp [Act.eval, Value.cells]; done) | ((try simp [Act.eval, Value.cells]); omega))); (first | exact rfl | (focus (simp [Act.eval, Value.cells]; done))); clear hK K; clear H; (try clear w2); revert w3; intro w2 H; simp [Act.eval, Value.cells, setL, List.getD] at H) | ((first | (guard_target =~ wpList _ _ _ (Oper.mk _ (.alloc _) _ _ _ _ :: _) _ _; refine BigFrame.wpList_want rfl (fun K hK => ?_); refine o_alloc (z := ?_) rfl ?_ H rfl (fun w3 b2 he H2 => hK _ _ ?_); rotate_left 1; (focus (intro _; simp; with_reducible exact rfl))) | (guard_target =~ wpList _ _ _ (Oper.mk _ (.box _ _) _ _ _ _ :: _) _ _; refine BigFrame.wpList_want rfl (fun K hK => ?_); refine o_box rfl H rfl (fun w3 b2 he H2 => hK _ _ ?_)) | (guard_target =~ wpList _ _ _ (Oper.mk _ (.buildSlice _ _ _) _ _ _ _ :: _) _ _; refine BigFrame.wpList_want rfl (fun K hK => ?_); refine o_buildSlice (C := ?_) (E := ?_) rfl rfl H ?_ rfl (fun w3 b2 he H2 => hK _ _ ?_); rotate_left 2; (focus (intro _; simp [go_sem, Instr.buildSlice]; with_reducible exact rfl)))); clear hK K he; clear H; (try clear w2); revert w3; intro w2 H; simp [Act.eval, Value.cells, setL, List.getD] at H)); simp only [Act.put, List.setIfInBounds_toArray, List.set_cons_succ, List.set_cons_zero]))
  go_loopg [5] n (FiRel B w0 (rB bq room A n c :: rG A n c rf :: l) n rf no)
  case atStart => exact ⟨0, Nat.zero_add _, rfl, by simp, H⟩
  case round =>
    clear H
    obtain ⟨j, hk, rfl, h0, H⟩ := hrel
    by_cases hlt : j < n
    · have hx := List.getElem?_eq_getElem (by rw [← HN.out]; exact hlt : j < rf.length)
      generalize rf[j]'(by rw [← HN.out]; exact hlt) = g at hx
      obtain ⟨d9, c9, he⟩ := H.growSome m1 (by omega) (by decide)
      injection he with hA hx2 hc9
      subst hA
      clear hx2 hc9
      have hp := at_grow (e := 104) (size := 4) (n := n) (b := d9) (c := c) (o := j * 4) (cs := [.int .i64 g.no]) (sub_at4 (fR_at rf j g hx) 0 1 (by omega))
      obtain ⟨v1, hv1⟩ : ∃ v, (g.no == no) = v := ⟨_, rfl⟩
      have HX := Lib.hid hx
      have HK := Lib.hid hk
      have H0 := Lib.hid h0
      clear hx hk h0
      cases v1
      · go_wp2_with (first
          | go_big_skip
          | (guard_target =~ wpList _ _ _ (_ :: _) _ _; (first | (guard_target =~ wpList _ _ _ (Oper.mk _ (.load _ _) _ _ _ _ :: _) _ _; refine BigFrame.wpList_want rfl (fun K hK => ?_); (first | (refine o_load (v := ?_) (r := ?_) rfl rfl H ?_ ?_ ?_ (hK _ _ ?_); rotate_left 2; (with_reducible assumption); (repeat first | exact .head _ | apply List.Mem.tail); (focus (intro _; simp; done))) | (refine o_loadC (v := ?_) (row := ?_) rfl rfl H ?_ ?_ ?_ (hK _ _ ?_); rotate_left 2; (repeat first | exact .head _ | apply List.Mem.tail); (first | exact rfl | with_reducible assumption); (focus (intro _; simp; done))) | (refine o_loadN (cs := ?_) (r := ?_) rfl rfl H ?_ ?_ ?_ ?_ (hK _ _ ?_); rotate_left 2; (with_reducible assumption); (repeat first | exact .head _ | apply List.Mem.tail); (focus (intro _; simp; done)); (focus (intro _; simp; done))) | (refine o_loadNC (row := ?_) rfl rfl H ?_ ?_ ?_ (hK _ _ ?_); rotate_left 1; (repeat first | exact .head _ | apply List.Mem.tail); (focus (intro _; simp; done)); (focus (intro _; simp; done)))); clear hK K) | (guard_target =~ wpList _ _ _ (Oper.mk _ (.store _ _ _) _ _ _ _ :: _) _ _; refine BigFrame.wpList_want rfl (fun K hK => ?_); refine o_store (l' := ?_) (row := ?_) rfl rfl H rfl ?_ ?_ ?_ ?_ (fun w3 H2 => hK _ _ ?_); rotate_left 2; (first | exact r0 | exact r1 | exact r2 | exact r3 | exact r4 | exact r5 | exact r6 | exact r7 | exact r8 | exact r9 | exact r10 | exact r11 | exact r12 | exact r13 | exact r14 | exact r15); (focus (intro _; simp [Act.eval, Value.cells]; done)); (focus (first | (simp [Act.eval, Value.cells]; done) | ((try simp [Act.eval, Value.cells]); omega))); (first | exact rfl | (focus (simp [Act.eval, Value.cells]; done))); clear hK K; clear H; (try clear w2); revert w3; intro w2 H; simp [Act.eval, Value.cells, setL, List.getD] at H) | ((first | (guard_target =~ wpList _ _ _ (Oper.mk _ (.alloc _) _ _ _ _ :: _) _ _; refine BigFrame.wpList_want rfl (fun K hK => ?_); refine o_alloc (z := ?_) rfl ?_ H rfl (fun w3 b2 he H2 => hK _ _ ?_); rotate_left 1; (focus (intro _; simp; with_reducible exact rfl))) | (guard_target =~ wpList _ _ _ (Oper.mk _ (.box _ _) _ _ _ _ :: _) _ _; refine BigFrame.wpList_want rfl (fun K hK => ?_); refine o_box rfl H rfl (fun w3 b2 he H2 => hK _ _ ?_)) | (guard_target =~ wpList _ _ _ (Oper.mk _ (.buildSlice _ _ _) _ _ _ _ :: _) _ _; refine BigFrame.wpList_want rfl (fun K hK => ?_); refine o_buildSlice (C := ?_) (E := ?_) rfl rfl H ?_ rfl (fun w3 b2 he H2 => hK _ _ ?_); rotate_left 2; (focus (intro _; simp [go_sem, Instr.buildSlice]; with_reducible exact rfl)))); clear hK K he; clear H; (try clear w2); revert w3; intro w2 H; simp [Act.eval, Value.cells, setL, List.getD] at H)); simp only [Act.put, List.setIfInBounds_toArray, List.set_cons_succ, List.set_cons_zero]))
        go_roundg (gk - 1)
        case rel => exact ⟨j + 1, by have := HK.out; omega, by congr 1, by
          intro a ha
          rw [List.take_add_one, HX.out] at ha
          rcases List.mem_append.1 ha with ha | ha
          · exact H0.out a ha
          · obtain rfl : a = g := by simpa using ha
            exact hv1, H⟩
        case measure => have := HK.out; omega
      · go_wp2_with (first
          | go_big_skip
          | (guard_target =~ wpList _ _ _ (_ :: _) _ _; (first | (guard_target =~ wpList _ _ _ (Oper.mk _ (.load _ _) _ _ _ _ :: _) _ _; refine BigFrame.wpList_want rfl (fun K hK => ?_); (first | (refine o_load (v := ?_) (r := ?_) rfl rfl H ?_ ?_ ?_ (hK _ _ ?_); rotate_left 2; (with_reducible assumption); (repeat first | exact .head _ | apply List.Mem.tail); (focus (intro _; simp; done))) | (refine o_loadC (v := ?_) (row := ?_) rfl rfl H ?_ ?_ ?_ (hK _ _ ?_); rotate_left 2; (repeat first | exact .head _ | apply List.Mem.tail); (first | exact rfl | with_reducible assumption); (focus (intro _; simp; done))) | (refine o_loadN (cs := ?_) (r := ?_) rfl rfl H ?_ ?_ ?_ ?_ (hK _ _ ?_); rotate_left 2; (with_reducible assumption); (repeat first | exact .head _ | apply List.Mem.tail); (focus (intro _; simp; done)); (focus (intro _; simp; done))) | (refine o_loadNC (row := ?_) rfl rfl H ?_ ?_ ?_ (hK _ _ ?_); rotate_left 1; (repeat first | exact .head _ | apply List.Mem.tail); (focus (intro _; simp; done)); (focus (intro _; simp; done)))); clear hK K) | (guard_target =~ wpList _ _ _ (Oper.mk _ (.store _ _ _) _ _ _ _ :: _) _ _; refine BigFrame.wpList_want rfl (fun K hK => ?_); refine o_store (l' := ?_) (row := ?_) rfl rfl H rfl ?_ ?_ ?_ ?_ (fun w3 H2 => hK _ _ ?_); rotate_left 2; (first | exact r0 | exact r1 | exact r2 | exact r3 | exact r4 | exact r5 | exact r6 | exact r7 | exact r8 | exact r9 | exact r10 | exact r11 | exact r12 | exact r13 | exact r14 | exact r15); (focus (intro _; simp [Act.eval, Value.cells]; done)); (focus (first | (simp [Act.eval, Value.cells]; done) | ((try simp [Act.eval, Value.cells]); omega))); (first | exact rfl | (focus (simp [Act.eval, Value.cells]; done))); clear hK K; clear H; (try clear w2); revert w3; intro w2 H; simp [Act.eval, Value.cells, setL, List.getD] at H) | ((first | (guard_target =~ wpList _ _ _ (Oper.mk _ (.alloc _) _ _ _ _ :: _) _ _; refine BigFrame.wpList_want rfl (fun K hK => ?_); refine o_alloc (z := ?_) rfl ?_ H rfl (fun w3 b2 he H2 => hK _ _ ?_); rotate_left 1; (focus (intro _; simp; with_reducible exact rfl))) | (guard_target =~ wpList _ _ _ (Oper.mk _ (.box _ _) _ _ _ _ :: _) _ _; refine BigFrame.wpList_want rfl (fun K hK => ?_); refine o_box rfl H rfl (fun w3 b2 he H2 => hK _ _ ?_)) | (guard_target =~ wpList _ _ _ (Oper.mk _ (.buildSlice _ _ _) _ _ _ _ :: _) _ _; refine BigFrame.wpList_want rfl (fun K hK => ?_); refine o_buildSlice (C := ?_) (E := ?_) rfl rfl H ?_ rfl (fun w3 b2 he H2 => hK _ _ ?_); rotate_left 2; (focus (intro _; simp [go_sem, Instr.buildSlice]; with_reducible exact rfl)))); clear hK K he; clear H; (try clear w2); revert w3; intro w2 H; simp [Act.eval, Value.cells, setL, List.getD] at H)); simp only [Act.put, List.setIfInBounds_toArray, List.set_cons_succ, List.set_cons_zero]))
        exact bodyPost_ret (v := .int .i64 (j : Int)) (by simp [results, Try.results45]) rfl ⟨by rw [fIdx_here HX.out hv1 H0.out], H⟩
    · obtain rfl : gk = 0 := by omega
      obtain rfl : j = n := by omega
      rw [HN.out, List.take_length] at h0
      have H0 := Lib.hid h0
      clear h0
      go_wp2_with (first
        | go_big_skip
        | (guard_target =~ wpList _ _ _ (_ :: _) _ _; (first | (guard_target =~ wpList _ _ _ (Oper.mk _ (.load _ _) _ _ _ _ :: _) _ _; refine BigFrame.wpList_want rfl (fun K hK => ?_); (first | (refine o_load (v := ?_) (r := ?_) rfl rfl H ?_ ?_ ?_ (hK _ _ ?_); rotate_left 2; (with_reducible assumption); (repeat first | exact .head _ | apply List.Mem.tail); (focus (intro _; simp; done))) | (refine o_loadC (v := ?_) (row := ?_) rfl rfl H ?_ ?_ ?_ (hK _ _ ?_); rotate_left 2; (repeat first | exact .head _ | apply List.Mem.tail); (first | exact rfl | with_reducible assumption); (focus (intro _; simp; done))) | (refine o_loadN (cs := ?_) (r := ?_) rfl rfl H ?_ ?_ ?_ ?_ (hK _ _ ?_); rotate_left 2; (with_reducible assumption); (repeat first | exact .head _ | apply List.Mem.tail); (focus (intro _; simp; done)); (focus (intro _; simp; done))) | (refine o_loadNC (row := ?_) rfl rfl H ?_ ?_ ?_ (hK _ _ ?_); rotate_left 1; (repeat first | exact .head _ | apply List.Mem.tail); (focus (intro _; simp; done)); (focus (intro _; simp; done)))); clear hK K) | (guard_target =~ wpList _ _ _ (Oper.mk _ (.store _ _ _) _ _ _ _ :: _) _ _; refine BigFrame.wpList_want rfl (fun K hK => ?_); refine o_store (l' := ?_) (row := ?_) rfl rfl H rfl ?_ ?_ ?_ ?_ (fun w3 H2 => hK _ _ ?_); rotate_left 2; (first | exact r0 | exact r1 | exact r2 | exact r3 | exact r4 | exact r5 | exact r6 | exact r7 | exact r8 | exact r9 | exact r10 | exact r11 | exact r12 | exact r13 | exact r14 | exact r15); (focus (intro _; simp [Act.eval, Value.cells]; done)); (focus (first | (simp [Act.eval, Value.cells]; done) | ((try simp [Act.eval, Value.cells]); omega))); (first | exact rfl | (focus (simp [Act.eval, Value.cells]; done))); clear hK K; clear H; (try clear w2); revert w3; intro w2 H; simp [Act.eval, Value.cells, setL, List.getD] at H) | ((first | (guard_target =~ wpList _ _ _ (Oper.mk _ (.alloc _) _ _ _ _ :: _) _ _; refine BigFrame.wpList_want rfl (fun K hK => ?_); refine o_alloc (z := ?_) rfl ?_ H rfl (fun w3 b2 he H2 => hK _ _ ?_); rotate_left 1; (focus (intro _; simp; with_reducible exact rfl))) | (guard_target =~ wpList _ _ _ (Oper.mk _ (.box _ _) _ _ _ _ :: _) _ _; refine BigFrame.wpList_want rfl (fun K hK => ?_); refine o_box rfl H rfl (fun w3 b2 he H2 => hK _ _ ?_)) | (guard_target =~ wpList _ _ _ (Oper.mk _ (.buildSlice _ _ _) _ _ _ _ :: _) _ _; refine BigFrame.wpList_want rfl (fun K hK => ?_); refine o_buildSlice (C := ?_) (E := ?_) rfl rfl H ?_ rfl (fun w3 b2 he H2 => hK _ _ ?_); rotate_left 2; (focus (intro _; simp [go_sem, Instr.buildSlice]; with_reducible exact rfl)))); clear hK K he; clear H; (try clear w2); revert w3; intro w2 H; simp [Act.eval, Value.cells, setL, List.getD] at H)); simp only [Act.put, List.setIfInBounds_toArray, List.set_cons_succ, List.set_cons_zero]))
      exact bodyPost_ret (v := .int .i64 (-1)) (by simp [results, Try.results45]) rfl ⟨by rw [fIdx_end H0.out], H⟩
theorem infoFr : (Try.prog.info? 104).map (fun i => (i.zero, i.size, i.bytes)) = some (some (.agg #[.int .i64 0, .string ⟨#[]⟩, .bool false, .int .i64 0]), 4, 40) := by kernel_rfl
theorem wo_step {i j : Nat} (h : rf[j]? = some g) : (rf.take (j + 1)).eraseIdx i = (rf.take j).eraseIdx i ++ if ((j : Int) == (i : Int)) = true then [] else [g] := by
  have hj : j < rf.length := (List.getElem?_eq_some_iff.1 h).1
  have hl : (rf.take j).length = j := by simp; omega
  rw [List.take_add_one, h]
  by_cases he : j = i
  · subst he
    have e1 : (rf.take j).eraseIdx j = rf.take j := List.eraseIdx_of_length_le (by omega)
    rw [List.eraseIdx_append_of_length_le (by omega), e1]
    simp [hl]
  · have h2 : ¬ ((j : Int) == (i : Int)) = true := by simp; omega
    rw [if_neg h2]
    rcases Nat.lt_or_gt_of_ne he with h1 | h1
    · have e1 : (rf.take j).eraseIdx i = rf.take j := List.eraseIdx_of_length_le (by omega)
      have e2 : (rf.take j ++ (some g).toList).eraseIdx i = rf.take j ++ (some g).toList := List.eraseIdx_of_length_le (by simp; omega)
      rw [e1, e2]; rfl
    · rw [List.eraseIdx_append_of_lt_length (by omega)]; rfl
def WoRel (B : Nat) (w0 : World) (L : List Res) (n : Nat) (rf : List Rf) (ix : Nat) (k : Nat) (l2 i : Value) (wr : World) : Prop :=
  ∃ (j : Nat) (xs : List Rf) (m : Nat) (A : Option Addr) (c : Nat), j + k = n ∧ i = .int .i64 (j : Int) ∧ l2 = .slice A m c ∧ m = xs.length ∧ xs = (rf.take j).eraseIdx ix ∧ Own B w0 wr (rG A m c xs :: L)
set_option maxRecDepth 100000 in
set_option maxHeartbeats 8000000 in
theorem without_any {ix : Nat} (hi : rf[ix]? = some g) (hn : n = rf.length) (hl : n ≤ 1000000) (H : Own B w0 w (rB bq room A n c :: rG A n c rf :: l)) :
    Calls Try.prog 46 #[.pointer (some ⟨bq, 0, none⟩), .int .i64 (ix : Int)] w (RQ B w0 bq room (rf.eraseIdx ix) l (.agg (f4 g).toArray)) := by
  have hix : ix < rf.length := (List.getElem?_eq_some_iff.1 hi).1
  have hixn : ix < n := by omega
  obtain ⟨d9, c9, he⟩ := H.growSome m1 (by omega) (by decide)
  injection he with hA hx2 hc9
  subst hA
  clear hx2 hc9
  have hp0 := at_grow (e := 104) (size := 4) (n := n) (b := d9) (c := c) (o := ix * 4) (cs := f4 g) (fR_at rf ix g hi)
  have HN := Lib.hid hn
  have HI := Lib.hid hi
  clear hn hi hix
  go_enter Try.func46, Try.ntmps46
  have tk0 : True := trivial
  have tk1 : True := trivial
  go_wp2_with (first
    | go_big_skip
    | (guard_target =~ wpList _ _ _ (_ :: _) _ _; (first | (guard_target =~ wpList _ _ _ (Oper.mk _ (.load _ _) _ _ _ _ :: _) _ _; refine BigFrame.wpList_want rfl (fun K hK => ?_); (first | (refine o_load (v := ?_) (r := ?_) rfl rfl H ?_ ?_ ?_ (hK _ _ ?_); rotate_left 2; (with_reducible assumption); (repeat first | exact .head _ | apply List.Mem.tail); (focus (intro _; simp; done))) | (refine o_loadC (v := ?_) (row := ?_) rfl rfl H ?_ ?_ ?_ (hK _ _ ?_); rotate_left 2; (repeat first | exact .head _ | apply List.Mem.tail); (first | exact rfl | with_reducible assumption); (focus (intro _; simp; done))) | (refine o_loadN (cs := ?_) (r := ?_) rfl rfl H ?_ ?_ ?_ ?_ (hK _ _ ?_); rotate_left 2; (with_reducible assumption); (repeat first | exact .head _ | apply List.Mem.tail); (focus (intro _; simp; done)); (focus (intro _; simp; done))) | (refine o_loadNC (row := ?_) rfl rfl H ?_ ?_ ?_ (hK _ _ ?_); rotate_left 1; (repeat first | exact .head _ | apply List.Mem.tail); (focus (intro _; simp; done)); (focus (intro _; simp; done)))); clear hK K) | (guard_target =~ wpList _ _ _ (Oper.mk _ (.store _ _ _) _ _ _ _ :: _) _ _; refine BigFrame.wpList_want rfl (fun K hK => ?_); refine o_store (l' := ?_) (row := ?_) rfl rfl H rfl ?_ ?_ ?_ ?_ (fun w3 H2 => hK _ _ ?_); rotate_left 2; (first | exact r0 | exact r1 | exact r2 | exact r3 | exact r4 | exact r5 | exact r6 | exact r7 | exact r8 | exact r9 | exact r10 | exact r11 | exact r12 | exact r13 | exact r14 | exact r15); (focus (intro _; simp [Act.eval, Value.cells]; done)); (focus (first | (simp [Act.eval, Value.cells]; done) | ((try simp [Act.eval, Value.cells]); omega))); (first | exact rfl | (focus (simp [Act.eval, Value.cells]; done))); clear hK K; clear H; (try clear w2); revert w3; intro w2 H; simp [Act.eval, Value.cells, setL, List.getD] at H) | ((first | (guard_target =~ wpList _ _ _ (Oper.mk _ (.alloc _) _ _ _ _ :: _) _ _; refine BigFrame.wpList_want rfl (fun K hK => ?_); refine o_alloc (z := ?_) rfl ?_ H rfl (fun w3 b2 he H2 => hK _ _ ?_); rotate_left 1; (focus (intro _; simp; with_reducible exact rfl))) | (guard_target =~ wpList _ _ _ (Oper.mk _ (.box _ _) _ _ _ _ :: _) _ _; refine BigFrame.wpList_want rfl (fun K hK => ?_); refine o_box rfl H rfl (fun w3 b2 he H2 => hK _ _ ?_)) | (guard_target =~ wpList _ _ _ (Oper.mk _ (.buildSlice _ _ _) _ _ _ _ :: _) _ _; refine BigFrame.wpList_want rfl (fun K hK => ?_); refine o_buildSlice (C := ?_) (E := ?_) rfl rfl H ?_ rfl (fun w3 b2 he H2 => hK _ _ ?_); rotate_left 2; (focus (intro _; simp [go_sem, Instr.buildSlice]; with_reducible exact rfl)))); clear hK K he; clear H; (try clear w2); revert w3; intro w2 H; simp [Act.eval, Value.cells, setL, List.getD] at H; (first | (clear tk0; rename Nat => b4) | (clear tk1; rename Nat => b5) | (skip)))); simp only [Act.put, List.setIfInBounds_toArray, List.set_cons_succ, List.set_cons_zero]))
  clear hp0
  go_loopg [6, 7] n (WoRel B w0 (.cells b5 (f4 g) :: .cells b4 [.int .i64 0, .string ⟨#[]⟩, .bool false, .int .i64 0] :: rB bq room (some ⟨d9, 0, none⟩) n c :: rG (some ⟨d9, 0, none⟩) n c rf :: l) n rf ix)
  case atStart => exact ⟨0, [], 0, none, 0, Nat.zero_add _, rfl, rfl, rfl, by simp, H.grow_nil 104 4⟩
  case round =>
    clear H
    obtain ⟨j, xs, m, A1, c1, hk, rfl, rfl, hm, hxs, H⟩ := hrel
    have HK := Lib.hid hk
    have HM := Lib.hid hm
    have hml : m ≤ n := by
      have h1 : (rf.take j).length ≤ rf.length := List.length_take_le' _ _
      have h2 : ((rf.take j).eraseIdx ix).length ≤ (rf.take j).length := (List.eraseIdx_sublist _ _).length_le
      have := HN.out
      rw [hm, hxs]; omega
    have HX := Lib.hid hxs
    clear hm hxs
    by_cases hlt : j < n
    · have hx := List.getElem?_eq_getElem (by rw [← HN.out]; exact hlt : j < rf.length)
      generalize rf[j]'(by rw [← HN.out]; exact hlt) = g1 at hx
      have hp := at_grow (e := 104) (size := 4) (n := n) (b := d9) (c := c) (o := j * 4) (cs := f4 g1) (fR_at rf j g1 hx)
      obtain ⟨v1, hv1⟩ : ∃ v, ((j : Int) == (ix : Int)) = v := ⟨_, rfl⟩
      have hv2 : ((j : Int) != (ix : Int)) = !v1 := by rw [bne, hv1]
      have hst := wo_step (i := ix) hx
      rw [hv1] at hst
      have HS := Lib.hid hst
      have HV := Lib.hid hv1
      clear hx hst hk hv1
      cases v1
      · simp only [Bool.not_false] at hv2
        have tk0 : True := trivial
        go_wp2_with (first
          | go_big_skip
          | (guard_target =~ wpList _ _ _ (_ :: _) _ _; (first | (guard_target =~ wpList _ _ _ (Oper.mk _ (.call { callee := .builtin .append, args := _, argTypes := _ }) _ _ _ _ :: _) _ _; refine BigFrame.wpList_want rfl (fun K hK => ?_); refine o_append (row := ?_) (n := ?_) (xs := ?_) (l' := ?_) infoFr rfl rfl rfl H ?_ rfl ?_ ?_ (by kernel_rfl) rfl (by decide) ?_ ?_ ?_ (fun v2 w3 H2 hn => hK _ _ ?_); rotate_left 4; (repeat first | exact .head _ | apply List.Mem.tail); (focus (simp; done)); (focus (intro _; (first | exact r0 | exact r1 | exact r2 | exact r3 | exact r4 | exact r5 | exact r6 | exact r7 | exact r8 | exact r9 | exact r10 | exact r11 | exact r12 | exact r13 | exact r14 | exact r15))); exact rfl; exact (by unfold maxLen; omega); exact (by omega); clear hK K hn; clear H; (try clear w2); revert w3; intro w2 H; simp only [List.take_succ_cons, List.take_zero, Nat.one_mul] at H; (obtain ⟨A7, c7, rfl⟩ := H.growForm (v := v2) (by repeat first | exact .head _ | apply List.Mem.tail))) | (guard_target =~ wpList _ _ _ (Oper.mk _ (.load _ _) _ _ _ _ :: _) _ _; refine BigFrame.wpList_want rfl (fun K hK => ?_); (first | (refine o_load (v := ?_) (r := ?_) rfl rfl H ?_ ?_ ?_ (hK _ _ ?_); rotate_left 2; (with_reducible assumption); (repeat first | exact .head _ | apply List.Mem.tail); (focus (intro _; simp; done))) | (refine o_loadC (v := ?_) (row := ?_) rfl rfl H ?_ ?_ ?_ (hK _ _ ?_); rotate_left 2; (repeat first | exact .head _ | apply List.Mem.tail); (first | exact rfl | with_reducible assumption); (focus (intro _; simp; done))) | (refine o_loadN (cs := ?_) (r := ?_) rfl rfl H ?_ ?_ ?_ ?_ (hK _ _ ?_); rotate_left 2; (with_reducible assumption); (repeat first | exact .head _ | apply List.Mem.tail); (focus (intro _; simp; done)); (focus (intro _; simp; done))) | (refine o_loadNC (row := ?_) rfl rfl H ?_ ?_ ?_ (hK _ _ ?_); rotate_left 1; (repeat first | exact .head _ | apply List.Mem.tail); (focus (intro _; simp; done)); (focus (intro _; simp; done)))); clear hK K) | (guard_target =~ wpList _ _ _ (Oper.mk _ (.store _ _ _) _ _ _ _ :: _) _ _; refine BigFrame.wpList_want rfl (fun K hK => ?_); refine o_store (l' := ?_) (row := ?_) rfl rfl H rfl ?_ ?_ ?_ ?_ (fun w3 H2 => hK _ _ ?_); rotate_left 2; (first | exact r0 | exact r1 | exact r2 | exact r3 | exact r4 | exact r5 | exact r6 | exact r7 | exact r8 | exact r9 | exact r10 | exact r11 | exact r12 | exact r13 | exact r14 | exact r15); (focus (intro _; simp [Act.eval, Value.cells]; done)); (focus (first | (simp [Act.eval, Value.cells]; done) | ((try simp [Act.eval, Value.cells]); omega))); (first | exact rfl | (focus (simp [Act.eval, Value.cells]; done))); clear hK K; clear H; (try clear w2); revert w3; intro w2 H; simp [Act.eval, Value.cells, setL, List.getD] at H) | ((first | (guard_target =~ wpList _ _ _ (Oper.mk _ (.alloc _) _ _ _ _ :: _) _ _; refine BigFrame.wpList_want rfl (fun K hK => ?_); refine o_alloc (z := ?_) rfl ?_ H rfl (fun w3 b2 he H2 => hK _ _ ?_); rotate_left 1; (focus (intro _; simp; with_reducible exact rfl))) | (guard_target =~ wpList _ _ _ (Oper.mk _ (.box _ _) _ _ _ _ :: _) _ _; refine BigFrame.wpList_want rfl (fun K hK => ?_); refine o_box rfl H rfl (fun w3 b2 he H2 => hK _ _ ?_)) | (guard_target =~ wpList _ _ _ (Oper.mk _ (.buildSlice _ _ _) _ _ _ _ :: _) _ _; refine BigFrame.wpList_want rfl (fun K hK => ?_); refine o_buildSlice (C := ?_) (E := ?_) rfl rfl H ?_ rfl (fun w3 b2 he H2 => hK _ _ ?_); rotate_left 2; (focus (intro _; simp [go_sem, Instr.buildSlice]; with_reducible exact rfl)))); clear hK K he; clear H; (try clear w2); revert w3; intro w2 H; simp [Act.eval, Value.cells, setL, List.getD] at H; (first | (clear tk0; rename Nat => b7) | (skip)))); simp only [Act.put, List.setIfInBounds_toArray, List.set_cons_succ, List.set_cons_zero]))
        go_roundg (gk - 1)
        case rel =>
          refine ⟨j + 1, xs ++ [g1], m + 1, A7, c7, by have := HK.out; omega, by congr 1, by congr 1, by rw [HM.out]; simp, by rw [HS.out, HX.out]; rfl, ?_⟩
          rw [rG, fR_app]
          exact H.tail
        case measure => have := HK.out; omega
      · simp only [Bool.not_true] at hv2
        go_wp2_with (first
          | go_big_skip
          | (guard_target =~ wpList _ _ _ (_ :: _) _ _; (first | (guard_target =~ wpList _ _ _ (Oper.mk _ (.load _ _) _ _ _ _ :: _) _ _; refine BigFrame.wpList_want rfl (fun K hK => ?_); (first | (refine o_load (v := ?_) (r := ?_) rfl rfl H ?_ ?_ ?_ (hK _ _ ?_); rotate_left 2; (with_reducible assumption); (repeat first | exact .head _ | apply List.Mem.tail); (focus (intro _; simp; done))) | (refine o_loadC (v := ?_) (row := ?_) rfl rfl H ?_ ?_ ?_ (hK _ _ ?_); rotate_left 2; (repeat first | exact .head _ | apply List.Mem.tail); (first | exact rfl | with_reducible assumption); (focus (intro _; simp; done))) | (refine o_loadN (cs := ?_) (r := ?_) rfl rfl H ?_ ?_ ?_ ?_ (hK _ _ ?_); rotate_left 2; (with_reducible assumption); (repeat first | exact .head _ | apply List.Mem.tail); (focus (intro _; simp; done)); (focus (intro _; simp; done))) | (refine o_loadNC (row := ?_) rfl rfl H ?_ ?_ ?_ (hK _ _ ?_); rotate_left 1; (repeat first | exact .head _ | apply List.Mem.tail); (focus (intro _; simp; done)); (focus (intro _; simp; done)))); clear hK K) | (guard_target =~ wpList _ _ _ (Oper.mk _ (.store _ _ _) _ _ _ _ :: _) _ _; refine BigFrame.wpList_want rfl (fun K hK => ?_); refine o_store (l' := ?_) (row := ?_) rfl rfl H rfl ?_ ?_ ?_ ?_ (fun w3 H2 => hK _ _ ?_); rotate_left 2; (first | exact r0 | exact r1 | exact r2 | exact r3 | exact r4 | exact r5 | exact r6 | exact r7 | exact r8 | exact r9 | exact r10 | exact r11 | exact r12 | exact r13 | exact r14 | exact r15); (focus (intro _; simp [Act.eval, Value.cells]; done)); (focus (first | (simp [Act.eval, Value.cells]; done) | ((try simp [Act.eval, Value.cells]); omega))); (first | exact rfl | (focus (simp [Act.eval, Value.cells]; done))); clear hK K; clear H; (try clear w2); revert w3; intro w2 H; simp [Act.eval, Value.cells, setL, List.getD] at H) | ((first | (guard_target =~ wpList _ _ _ (Oper.mk _ (.alloc _) _ _ _ _ :: _) _ _; refine BigFrame.wpList_want rfl (fun K hK => ?_); refine o_alloc (z := ?_) rfl ?_ H rfl (fun w3 b2 he H2 => hK _ _ ?_); rotate_left 1; (focus (intro _; simp; with_reducible exact rfl))) | (guard_target =~ wpList _ _ _ (Oper.mk _ (.box _ _) _ _ _ _ :: _) _ _; refine BigFrame.wpList_want rfl (fun K hK => ?_); refine o_box rfl H rfl (fun w3 b2 he H2 => hK _ _ ?_)) | (guard_target =~ wpList _ _ _ (Oper.mk _ (.buildSlice _ _ _) _ _ _ _ :: _) _ _; refine BigFrame.wpList_want rfl (fun K hK => ?_); refine o_buildSlice (C := ?_) (E := ?_) rfl rfl H ?_ rfl (fun w3 b2 he H2 => hK _ _ ?_); rotate_left 2; (focus (intro _; simp [go_sem, Instr.buildSlice]; with_reducible exact rfl)))); clear hK K he; clear H; (try clear w2); revert w3; intro w2 H; simp [Act.eval, Value.cells, setL, List.getD] at H)); simp only [Act.put, List.setIfInBounds_toArray, List.set_cons_succ, List.set_cons_zero]))
        go_roundg (gk - 1)
        case rel => exact ⟨j + 1, xs, m, A1, c1, by have := HK.out; omega, by congr 1, by congr 1, HM.out, by rw [HS.out, HX.out]; simp, H⟩
        case measure => have := HK.out; omega
    · obtain rfl : gk = 0 := by omega
      obtain rfl : j = n := by omega
      go_wp2_with (first
        | go_big_skip
        | (guard_target =~ wpList _ _ _ (_ :: _) _ _; (first | (guard_target =~ wpList _ _ _ (Oper.mk _ (.load _ _) _ _ _ _ :: _) _ _; refine BigFrame.wpList_want rfl (fun K hK => ?_); (first | (refine o_load (v := ?_) (r := ?_) rfl rfl H ?_ ?_ ?_ (hK _ _ ?_); rotate_left 2; (with_reducible assumption); (repeat first | exact .head _ | apply List.Mem.tail); (focus (intro _; simp; done))) | (refine o_loadC (v := ?_) (row := ?_) rfl rfl H ?_ ?_ ?_ (hK _ _ ?_); rotate_left 2; (repeat first | exact .head _ | apply List.Mem.tail); (first | exact rfl | with_reducible assumption); (focus (intro _; simp; done))) | (refine o_loadN (cs := ?_) (r := ?_) rfl rfl H ?_ ?_ ?_ ?_ (hK _ _ ?_); rotate_left 2; (with_reducible assumption); (repeat first | exact .head _ | apply List.Mem.tail); (focus (intro _; simp; done)); (focus (intro _; simp; done))) | (refine o_loadNC (row := ?_) rfl rfl H ?_ ?_ ?_ (hK _ _ ?_); rotate_left 1; (repeat first | exact .head _ | apply List.Mem.tail); (focus (intro _; simp; done)); (focus (intro _; simp; done)))); clear hK K) | (guard_target =~ wpList _ _ _ (Oper.mk _ (.store _ _ _) _ _ _ _ :: _) _ _; refine BigFrame.wpList_want rfl (fun K hK => ?_); refine o_store (l' := ?_) (row := ?_) rfl rfl H rfl ?_ ?_ ?_ ?_ (fun w3 H2 => hK _ _ ?_); rotate_left 2; (first | exact r0 | exact r1 | exact r2 | exact r3 | exact r4 | exact r5 | exact r6 | exact r7 | exact r8 | exact r9 | exact r10 | exact r11 | exact r12 | exact r13 | exact r14 | exact r15); (focus (intro _; simp [Act.eval, Value.cells]; done)); (focus (first | (simp [Act.eval, Value.cells]; done) | ((try simp [Act.eval, Value.cells]); omega))); (first | exact rfl | (focus (simp [Act.eval, Value.cells]; done))); clear hK K; clear H; (try clear w2); revert w3; intro w2 H; simp [Act.eval, Value.cells, setL, List.getD] at H) | ((first | (guard_target =~ wpList _ _ _ (Oper.mk _ (.alloc _) _ _ _ _ :: _) _ _; refine BigFrame.wpList_want rfl (fun K hK => ?_); refine o_alloc (z := ?_) rfl ?_ H rfl (fun w3 b2 he H2 => hK _ _ ?_); rotate_left 1; (focus (intro _; simp; with_reducible exact rfl))) | (guard_target =~ wpList _ _ _ (Oper.mk _ (.box _ _) _ _ _ _ :: _) _ _; refine BigFrame.wpList_want rfl (fun K hK => ?_); refine o_box rfl H rfl (fun w3 b2 he H2 => hK _ _ ?_)) | (guard_target =~ wpList _ _ _ (Oper.mk _ (.buildSlice _ _ _) _ _ _ _ :: _) _ _; refine BigFrame.wpList_want rfl (fun K hK => ?_); refine o_buildSlice (C := ?_) (E := ?_) rfl rfl H ?_ rfl (fun w3 b2 he H2 => hK _ _ ?_); rotate_left 2; (focus (intro _; simp [go_sem, Instr.buildSlice]; with_reducible exact rfl)))); clear hK K he; clear H; (try clear w2); revert w3; intro w2 H; simp [Act.eval, Value.cells, setL, List.getD] at H)); simp only [Act.put, List.setIfInBounds_toArray, List.set_cons_succ, List.set_cons_zero]))
      have hr := H.loadVarN (P := Try.prog) (ty := 104) (b := b4) m2 (by simp) (by simp)
      have e1 : xs = rf.eraseIdx ix := by rw [HX.out, HN.out, List.take_length]
      exact bodyPost_ret (v := .agg (f4 g).toArray) (by simp [results, Try.results46, asAddr, hr]) rfl ⟨A1, m, c1, rfl, by rw [HM.out, e1], by
        rw [← e1]
        exact (H.perm (l' := .cells b5 (f4 g) :: .cells b4 (f4 g) :: rB bq room A1 m c1 :: rG A1 m c1 xs :: rG (some ⟨d9, 0, none⟩) j c rf :: l) (by
          exact (perm_pull (x := rG A1 m c1 xs) [.cells b5 (f4 g), .cells b4 (f4 g), rB bq room A1 m c1] [] [rG (some ⟨d9, 0, none⟩) j c rf] l).symm)).sub (.cons _ (.cons _ (.cons_cons _ (.cons_cons _ (.cons _ (.refl _))))))⟩
end
end Go.Proofs.Ytbpclhgbobiahaa
