/-
  The walks of the document's layer 3: sums of digits.
-/
import Derived.Test.YtmmieilogpmocaaRows
import Derived.Test.YtmmieilogpmocaaDig
namespace Go.Proofs.Ytmmieilogpmocaa
set_option linter.unusedVariables false
set_option linter.unusedSimpArgs false
open Go.RowKit

theorem Try.infoInt : (Try.prog.info? 3).map (fun i => (i.zero, i.size, i.bytes)) = some (some (.int .i64 0), 1, 8) := by kernel_rfl
/-- What plus answers. -/
def RetP (F : Nat → Prop) (w : World) (n m : Nat) (e : Ending) (w' : World) : Prop :=
  ∃ A c l, e = .returned (.slice A l.length c) ∧ Below w.heap.size w w' ∧ Sl F w' A (dl l) ∧ Dg l ∧ val l = n ∧ l.length ≤ m + 1 ∧ l.length ≤ c ∧ c ≤ maxLen ∧ (l.length = m + 1 → 65536 ^ m ≤ n)
/-- What a function of digits answers: a new slice, of a number's digits. -/
def RetD (F : Nat → Prop) (w : World) (n len : Nat) (e : Ending) (w' : World) : Prop :=
  ∃ A c l, e = .returned (.slice A l.length c) ∧ Below w.heap.size w w' ∧ Sl F w' A (dl l) ∧ Dg l ∧ val l = n ∧ l.length ≤ len ∧ l.length ≤ c ∧ c ≤ maxLen
def PlusRel (F : Nat → Prop) (w : World) (A1 A2 : Option Addr) (b1 o1 b2 o2 : Nat) (a b : List Nat) (k : Nat) (out cy i : Value) (wr : World) : Prop :=
  ∃ l c, k + l.length = max a.length b.length + 1 ∧ i = .int .i64 (l.length : Int) ∧ cy = .int .i64 ((c : Nat) : Int) ∧ c ≤ 1 ∧ Dg l ∧ val l + 65536 ^ l.length * c = val (a.take l.length) + val (b.take l.length) ∧
    (k = 0 → c = 0) ∧ (k = 0 → 65536 ^ max a.length b.length ≤ val l) ∧ Own w.heap.size w wr [.grow 3 1 out l.length (dl l), .rd A1 b1 o1 (dl a), .rd A2 b2 o2 (dl b)]
theorem plus_close {F : Nat → Prop} {w w2 : World} {A1 A2 : Option Addr} {b1 o1 b2 o2 : Nat} {a b l : List Nat} {gk c x y : Nat} {v2 : Value} {e1 e2 e3 : Int} {r0 : Res}
    (hk : gk + l.length = max a.length b.length + 1) (hc : c ≤ 1) (gl : Dg l) (hv : val l + 65536 ^ l.length * c = val (a.take l.length) + val (b.take l.length)) (h0 : 0 < gk) (hz : l.length = max a.length b.length → x = 0 ∧ y = 0 ∧ 0 < c)
    (hx : a.getD l.length 0 = x) (hy : b.getD l.length 0 = y) (bx : x < 65536) (by_ : y < 65536) (q1 : e1 = (c + x + y : Int) % 65536) (q2 : e2 = (c + x + y : Int) / 65536) (q3 : e3 = (l.length : Int) + 1)
    (H : Own w.heap.size w w2 [r0, .grow 3 1 v2 (l.length + 1) (dl l ++ [.int .i64 e1]), .rd A1 b1 o1 (dl a), .rd A2 b2 o2 (dl b)]) :
    PlusRel F w A1 A2 b1 o1 b2 o2 a b (gk - 1) v2 (.int .i64 e2) (.int .i64 e3) w2 := by
  have f1 : e1 = (((c + x + y) % 65536 : Nat) : Int) := by omega
  have f2 : e2 = (((c + x + y) / 65536 : Nat) : Int) := by omega
  refine ⟨l ++ [(c + x + y) % 65536], (c + x + y) / 65536, by simp; omega, by rw [q3]; simp, by rw [f2], by omega, gl.snoc (by omega), ?_, fun hg => ?_, fun hg => ?_, ?_⟩
  · rw [List.length_append]
    exact plus_step a b l l.length c _ rfl hv (by rw [hx, hy])
  · obtain ⟨rfl, rfl, _⟩ := hz (by omega)
    omega
  · have hl : l.length = max a.length b.length := by omega
    obtain ⟨rfl, rfl, h1⟩ := hz hl
    obtain rfl : c = 1 := by omega
    rw [val_snoc, hl]
    have : 65536 ^ max a.length b.length * 1 ≤ 65536 ^ max a.length b.length * ((1 + 0 + 0) % 65536) := Nat.mul_le_mul_left _ (by decide)
    omega
  · have := H.tail
    rw [List.length_append, dl_append]
    rw [f1] at this
    exact this
set_option maxRecDepth 100000 in
set_option maxHeartbeats 2000000 in
theorem plus_full (F : Nat → Prop) (w : World) (hF : ∀ k, F k → k < w.heap.size) (A1 A2 : Option Addr) (c1 c2 : Nat) (a b : List Nat) (ha : Sl F w A1 (dl a)) (hb : Sl F w A2 (dl b)) (ga : Dg a) (gb : Dg b) (la : a.length ≤ 1000) (lb : b.length ≤ 1000) :
    Calls Try.prog 99 #[.slice A1 a.length c1, .slice A2 b.length c2] w (RetP F w (val a + val b) (max a.length b.length)) := by
  obtain ⟨b2, o2, H, f2⟩ := (Own.start w).addSl (hb.ro (by rfl))
  obtain ⟨b1, o1, H1, f1⟩ := H.addSl (ha.ro (by rfl))
  clear ha hb H
  go_enter Try.func99, Try.ntmps99
  go_wp2
  go_loopg [5, 6, 7] (max a.length b.length + 1) (PlusRel F w A1 A2 b1 o1 b2 o2 a b)
  case atStart =>
    exact ⟨[], 0, rfl, rfl, rfl, by omega, Dg.nil, by simp [val], fun _ => rfl, fun h => by omega, H1.grow_nil _ 1⟩
  case round =>
    clear H1
    obtain ⟨l, c, hk, rfl, rfl, hc, gl, hv, hz, hz2, H⟩ := hrel
    have HZ := Lib.hid hz2
    clear hz2
    have gv := hv
    clear hv
    have hv := Lib.hid gv
    clear gv
    by_cases h1 : l.length < a.length
    · obtain rfl := H.rdAddr m1 (by rw [dl_length]; omega)
      obtain ⟨x, hx, bx, tx⟩ := dig_at h1 ga
      replace tx := tx (some ⟨b1, o1, none⟩) b1 o1
      by_cases h2 : l.length < b.length
      · obtain rfl := H.rdAddr m2 (by rw [dl_length]; omega)
        obtain ⟨y, hy, by_, ty⟩ := dig_at h2 gb
        replace ty := ty (some ⟨b2, o2, none⟩) b2 o2
        go_wp2_with (guard_target =~ wpList _ _ _ (_ :: _) _ _; (first | (guard_target =~ wpList _ _ _ (Oper.mk _ (.call { callee := .builtin .append, args := _, argTypes := _ }) _ _ _ _ :: _) _ _; refine BigFrame.wpList_want rfl (fun K hK => ?_); refine o_append (row := ?_) (n := ?_) (xs := ?_) (l' := ?_) Try.infoInt rfl rfl rfl H ?_ rfl ?_ ?_ (by kernel_rfl) rfl (by decide) ?_ ?_ ?_ (fun v2 w3 H2 hn => hK _ _ ?_); rotate_left 4; (repeat first | exact .head _ | apply List.Mem.tail); (focus (simp; done)); (focus (intro _; (exact r1))); exact rfl; exact (by unfold maxLen; omega); exact (by omega); clear hK K hn; clear H; (try clear w2); revert w3; intro w2 H; simp only [List.take_succ_cons, List.take_zero, Nat.one_mul] at H) | (guard_target =~ wpList _ _ _ (Oper.mk _ (.load _ _) _ _ _ _ :: _) _ _; refine BigFrame.wpList_want rfl (fun K hK => ?_); (refine o_load (v := ?_) (r := ?_) rfl rfl H ?_ ?_ ?_ (hK _ _ ?_); rotate_left 2; (with_reducible assumption); (repeat first | exact .head _ | apply List.Mem.tail); (focus (intro _; simp; done))); clear hK K) | ((guard_target =~ wpList _ _ _ (Oper.mk _ (.buildSlice _ _ _) _ _ _ _ :: _) _ _; refine BigFrame.wpList_want rfl (fun K hK => ?_); refine o_buildSlice (C := ?_) (E := ?_) rfl rfl H ?_ rfl (fun w3 b2 he H2 => hK _ _ ?_); rotate_left 2; (focus (intro _; simp [go_sem, Instr.buildSlice]; with_reducible exact rfl))); clear hK K he; clear H; (try clear w2); revert w3; intro w2 H; simp [Act.eval, Value.cells, setL, List.getD] at H)); simp only [Act.put, List.setIfInBounds_toArray, List.set_cons_succ, List.set_cons_zero])
        go_roundg (gk - 1)
        case rel => exact plus_close hk hc gl hv.out (by omega) (by omega) hx.out hy.out (by omega) (by omega) (by omega) (by omega) (by omega) H
        case measure => omega
      · go_wp2_with (guard_target =~ wpList _ _ _ (_ :: _) _ _; (first | (guard_target =~ wpList _ _ _ (Oper.mk _ (.call { callee := .builtin .append, args := _, argTypes := _ }) _ _ _ _ :: _) _ _; refine BigFrame.wpList_want rfl (fun K hK => ?_); refine o_append (row := ?_) (n := ?_) (xs := ?_) (l' := ?_) Try.infoInt rfl rfl rfl H ?_ rfl ?_ ?_ (by kernel_rfl) rfl (by decide) ?_ ?_ ?_ (fun v2 w3 H2 hn => hK _ _ ?_); rotate_left 4; (repeat first | exact .head _ | apply List.Mem.tail); (focus (simp; done)); (focus (intro _; (exact r1))); exact rfl; exact (by unfold maxLen; omega); exact (by omega); clear hK K hn; clear H; (try clear w2); revert w3; intro w2 H; simp only [List.take_succ_cons, List.take_zero, Nat.one_mul] at H) | (guard_target =~ wpList _ _ _ (Oper.mk _ (.load _ _) _ _ _ _ :: _) _ _; refine BigFrame.wpList_want rfl (fun K hK => ?_); (refine o_load (v := ?_) (r := ?_) rfl rfl H ?_ ?_ ?_ (hK _ _ ?_); rotate_left 2; (with_reducible assumption); (repeat first | exact .head _ | apply List.Mem.tail); (focus (intro _; simp; done))); clear hK K) | ((guard_target =~ wpList _ _ _ (Oper.mk _ (.buildSlice _ _ _) _ _ _ _ :: _) _ _; refine BigFrame.wpList_want rfl (fun K hK => ?_); refine o_buildSlice (C := ?_) (E := ?_) rfl rfl H ?_ rfl (fun w3 b2 he H2 => hK _ _ ?_); rotate_left 2; (focus (intro _; simp [go_sem, Instr.buildSlice]; with_reducible exact rfl))); clear hK K he; clear H; (try clear w2); revert w3; intro w2 H; simp [Act.eval, Value.cells, setL, List.getD] at H)); simp only [Act.put, List.setIfInBounds_toArray, List.set_cons_succ, List.set_cons_zero])
        go_roundg (gk - 1)
        case rel => exact plus_close hk hc gl hv.out (by omega) (by omega) hx.out (getD_past h2) (by omega) (by omega) (by omega) (by omega) (by omega) H
        case measure => omega
    · by_cases h2 : l.length < b.length
      · obtain rfl := H.rdAddr m2 (by rw [dl_length]; omega)
        obtain ⟨y, hy, by_, ty⟩ := dig_at h2 gb
        replace ty := ty (some ⟨b2, o2, none⟩) b2 o2
        go_wp2_with (guard_target =~ wpList _ _ _ (_ :: _) _ _; (first | (guard_target =~ wpList _ _ _ (Oper.mk _ (.call { callee := .builtin .append, args := _, argTypes := _ }) _ _ _ _ :: _) _ _; refine BigFrame.wpList_want rfl (fun K hK => ?_); refine o_append (row := ?_) (n := ?_) (xs := ?_) (l' := ?_) Try.infoInt rfl rfl rfl H ?_ rfl ?_ ?_ (by kernel_rfl) rfl (by decide) ?_ ?_ ?_ (fun v2 w3 H2 hn => hK _ _ ?_); rotate_left 4; (repeat first | exact .head _ | apply List.Mem.tail); (focus (simp; done)); (focus (intro _; (exact r1))); exact rfl; exact (by unfold maxLen; omega); exact (by omega); clear hK K hn; clear H; (try clear w2); revert w3; intro w2 H; simp only [List.take_succ_cons, List.take_zero, Nat.one_mul] at H) | (guard_target =~ wpList _ _ _ (Oper.mk _ (.load _ _) _ _ _ _ :: _) _ _; refine BigFrame.wpList_want rfl (fun K hK => ?_); (refine o_load (v := ?_) (r := ?_) rfl rfl H ?_ ?_ ?_ (hK _ _ ?_); rotate_left 2; (with_reducible assumption); (repeat first | exact .head _ | apply List.Mem.tail); (focus (intro _; simp; done))); clear hK K) | ((guard_target =~ wpList _ _ _ (Oper.mk _ (.buildSlice _ _ _) _ _ _ _ :: _) _ _; refine BigFrame.wpList_want rfl (fun K hK => ?_); refine o_buildSlice (C := ?_) (E := ?_) rfl rfl H ?_ rfl (fun w3 b2 he H2 => hK _ _ ?_); rotate_left 2; (focus (intro _; simp [go_sem, Instr.buildSlice]; with_reducible exact rfl))); clear hK K he; clear H; (try clear w2); revert w3; intro w2 H; simp [Act.eval, Value.cells, setL, List.getD] at H)); simp only [Act.put, List.setIfInBounds_toArray, List.set_cons_succ, List.set_cons_zero])
        go_roundg (gk - 1)
        case rel => exact plus_close hk hc gl hv.out (by omega) (by omega) (getD_past h1) hy.out (by omega) (by omega) (by omega) (by omega) (by omega) H
        case measure => omega
      · by_cases h3 : 0 < c
        · go_wp2_with (guard_target =~ wpList _ _ _ (_ :: _) _ _; (first | (guard_target =~ wpList _ _ _ (Oper.mk _ (.call { callee := .builtin .append, args := _, argTypes := _ }) _ _ _ _ :: _) _ _; refine BigFrame.wpList_want rfl (fun K hK => ?_); refine o_append (row := ?_) (n := ?_) (xs := ?_) (l' := ?_) Try.infoInt rfl rfl rfl H ?_ rfl ?_ ?_ (by kernel_rfl) rfl (by decide) ?_ ?_ ?_ (fun v2 w3 H2 hn => hK _ _ ?_); rotate_left 4; (repeat first | exact .head _ | apply List.Mem.tail); (focus (simp; done)); (focus (intro _; (exact r1))); exact rfl; exact (by unfold maxLen; omega); exact (by omega); clear hK K hn; clear H; (try clear w2); revert w3; intro w2 H; simp only [List.take_succ_cons, List.take_zero, Nat.one_mul] at H) | ((guard_target =~ wpList _ _ _ (Oper.mk _ (.buildSlice _ _ _) _ _ _ _ :: _) _ _; refine BigFrame.wpList_want rfl (fun K hK => ?_); refine o_buildSlice (C := ?_) (E := ?_) rfl rfl H ?_ rfl (fun w3 b2 he H2 => hK _ _ ?_); rotate_left 2; (focus (intro _; simp [go_sem, Instr.buildSlice]; with_reducible exact rfl))); clear hK K he; clear H; (try clear w2); revert w3; intro w2 H; simp [Act.eval, Value.cells, setL, List.getD] at H)); simp only [Act.put, List.setIfInBounds_toArray, List.set_cons_succ, List.set_cons_zero])
          go_roundg (gk - 1)
          case rel => exact plus_close hk hc gl hv.out (by omega) (by omega) (getD_past h1) (getD_past h2) (by omega) (by omega) (by omega) (by omega) (by omega) H
          case measure => omega
        · obtain rfl : c = 0 := by omega
          go_wp2_with fail
          go_ret
          obtain ⟨A, cap, rfl, hcap, hmax, hs⟩ := H.giveGrow m0 hF
          have h4 := hv.out
          rw [val_take_all a _ (by omega), val_take_all b _ (by omega), Nat.mul_zero, Nat.add_zero] at h4
          refine ⟨A, cap, l, rfl, H.below, hs, gl, h4, by omega, hcap, hmax, fun hl => ?_⟩
          rw [← h4]
          exact HZ.out (by omega)
theorem plus_any (F : Nat → Prop) (w : World) (hF : ∀ k, F k → k < w.heap.size) (A1 A2 : Option Addr) (c1 c2 : Nat) (a b : List Nat) (ha : Sl F w A1 (dl a)) (hb : Sl F w A2 (dl b)) (ga : Dg a) (gb : Dg b) (la : a.length ≤ 1000) (lb : b.length ≤ 1000) :
    Calls Try.prog 99 #[.slice A1 a.length c1, .slice A2 b.length c2] w (RetD F w (val a + val b) (max a.length b.length + 1)) := by
  refine (plus_full F w hF A1 A2 c1 c2 a b ha hb ga gb la lb).mono ?_
  rintro e w' ⟨A, c, l, he, hb, hs, hg, hv, h1, h2, h3, h4⟩
  exact ⟨A, c, l, he, hb, hs, hg, hv, h1, h2, h3⟩
/-- Digits of the least number: none above the highest that isn't 0. -/
theorem CnI.of_len {l : List Nat} {n : Nat} (g : Dg l) (hv : val l = n) (h : l ≠ [] → 65536 ^ (l.length - 1) ≤ n) : CnI l n := by
  refine ⟨g, fun hn h0 => ?_, by rw [hv]; simp⟩
  have h1 := h hn
  have e : l = l.dropLast ++ [0] := by
    have := List.dropLast_concat_getLast hn
    rw [h0] at this
    exact this.symm
  have h2 : val l = val l.dropLast := by
    conv => lhs; rw [e, val_snoc]
    simp
  have h3 := val_lt (l := l.dropLast) (fun d hd => g d (List.dropLast_subset _ hd))
  rw [List.length_dropLast] at h3
  omega
/-- The sum of two numbers' digits. -/
theorem plus_can {F : Nat → Prop} {w w' : World} {m n : Nat} {a b : List Nat} {e : Ending} (ga : CnI a m) (gb : CnI b n) (h : RetP F w (val a + val b) (max a.length b.length) e w') :
    ∃ A c l, e = .returned (.slice A l.length c) ∧ Below w.heap.size w w' ∧ Sl F w' A (dl l) ∧ CnI l ((m + n : Nat) : Int) ∧ l.length ≤ c ∧ c ≤ maxLen := by
  obtain ⟨A, c, l, he, hb, hs, hg, hv, h1, h2, h3, h4⟩ := h
  have e1 := ga.2.2
  have e2 := gb.2.2
  simp only [Int.natAbs_natCast] at e1 e2
  refine ⟨A, c, l, he, hb, hs, CnI.of_len hg (by rw [hv, e1, e2]) (fun hn => ?_), h2, h3⟩
  by_cases h5 : l.length = max a.length b.length + 1
  · rw [h5, ← e1, ← e2]; exact h4 h5
  · have hp : 0 < l.length := List.length_pos_iff.2 hn
    rcases Nat.le_total a.length b.length with h6 | h6
    · have hb0 : b ≠ [] := fun h => by have : b.length = 0 := (by rw [h]; rfl); omega
      have := val_pos hb0 (gb.2.1 hb0)
      rw [← e1, ← e2]
      have h7 : 65536 ^ (l.length - 1) ≤ 65536 ^ (b.length - 1) := Nat.pow_le_pow_right (by omega) (by omega)
      omega
    · have ha0 : a ≠ [] := fun h => by have : a.length = 0 := (by rw [h]; rfl); omega
      have := val_pos ha0 (ga.2.1 ha0)
      rw [← e1, ← e2]
      have h7 : 65536 ^ (l.length - 1) ≤ 65536 ^ (a.length - 1) := Nat.pow_le_pow_right (by omega) (by omega)
      omega
end Go.Proofs.Ytmmieilogpmocaa
