/-
  The walks of the document's small functions on halves: Has, Same, Halves, From.
-/
import Derived.Test.YtlhmjhildlnokaaSpin9
namespace Go.Proofs.Ytlhmjhildlnokaa
set_option linter.unusedVariables false
set_option linter.unusedSimpArgs false
open Go.RowKit

theorem eqH_eql (e f : Int) (b c : Bool) (w : World) : (binOp .eql 36 (.agg #[.int .i64 e, .bool b]) (.agg #[.int .i64 f, .bool c])).run Try.prog w = .ok (.bool (decide (e = f) && decide (b = c))) w := by
  rw [hf_eq ⟨e, b⟩ ⟨f, c⟩]; exact eqS_eql (P := Try.prog) (eqH_in ⟨e, b⟩ ⟨f, c⟩) w
theorem eqH_neq (e f : Int) (b c : Bool) (w : World) : (binOp .neq 36 (.agg #[.int .i64 e, .bool b]) (.agg #[.int .i64 f, .bool c])).run Try.prog w = .ok (.bool (!(decide (e = f) && decide (b = c)))) w := by
  rw [hf_eq ⟨e, b⟩ ⟨f, c⟩]; exact eqS_neq (P := Try.prog) (eqH_in ⟨e, b⟩ ⟨f, c⟩) w
theorem eqH_guard (op : BinOp) (x y : Operand) (e f : Int) (b c : Bool) (w : World) : (eqGuard op 36 x y (.agg #[.int .i64 e, .bool b]) (.agg #[.int .i64 f, .bool c])).run Try.prog w = .ok () w := by
  have h : Try.prog.eqGuardType Try.prog.depth 36 = false := by kernel_rfl
  cases op <;> simp [eqGuard, h]
theorem h_at {A : Option Addr} {bb off : Nat} {L : List Hf} {j : Nat} {e : Int} {b : Bool} (h : L[j]? = some ⟨e, b⟩) : (Res.rd A bb off (hR L)).at bb (off + j * 2) [.int .i64 e, .bool b] := at_rdN (by simpa using hR_at h)
theorem hR_pos {L : List Hf} {j : Nat} (h : j < L.length) : 0 < (hR L).length := by
  cases L with
  | nil => simp at h
  | cons a L => simp [hR, h2]
theorem hf_get {L : List Hf} {j : Nat} (h : j < L.length) : ∃ e b, L[j]? = some ⟨e, b⟩ := ⟨_, _, List.getElem?_eq_getElem h⟩
theorem has_step {L : List Hf} {j : Nat} {g h : Hf} (hg : L[j]? = some g) (hn : h ∉ L.take j) (hne : g ≠ h) : h ∉ L.take (j + 1) := by
  rw [List.take_add_one, hg]
  intro q
  rcases List.mem_append.1 q with q | q
  · exact hn q
  · exact hne (by simpa using q : h = g).symm
set_option maxRecDepth 100000 in
set_option maxHeartbeats 4000000 in
theorem has_any (L : List Hf) (A : Option Addr) (n c : Nat) (F : Nat → Prop) (e0 : Int) (b0' : Bool) (w : World) (hn : n = L.length) (hs : Sl F w A (hR L)) (hl : n ≤ 1000000) :
    Calls Try.prog 34 #[.slice A n c, .agg #[.int .i64 e0, .bool b0']] w fun e w' => e = .returned (.bool (decide ((⟨e0, b0'⟩ : Hf) ∈ L))) ∧ Below w.heap.size w w' := by
  obtain ⟨o, hv⟩ : ∃ o, decide ((⟨e0, b0'⟩ : Hf) ∈ L) = o := ⟨_, rfl⟩
  have HV := Lib.hid hv
  rw [hv]; clear hv
  obtain ⟨b0, o0, H, f0⟩ := (Own.start w).addSl (hs.ro (by rfl))
  clear hs
  have HN := Lib.hid hn
  have hn' := hn
  clear hn
  have hq := eqH_eql
  have hg := eqH_guard
  go_enter Try.func34, Try.ntmps34
  have tk0 : True := trivial
  have tk1 : True := trivial
  go_wp2_with (guard_target =~ wpList _ _ _ (_ :: _) _ _; ((guard_target =~ wpList _ _ _ (Oper.mk _ (.box _ _) _ _ _ _ :: _) _ _; refine BigFrame.wpList_want rfl (fun K hK => ?_); refine o_box rfl H rfl (fun w3 b2 he H2 => hK _ _ ?_)); clear hK K he; clear H; (try clear w2); revert w3; intro w2 H; simp [Act.eval, Value.cells, setL, List.getD] at H; (clear tk0; rename Nat => b1)); simp only [Act.put, List.setIfInBounds_toArray, List.set_cons_succ, List.set_cons_zero])
  go_loopg [5] n (fun k i wr => k ≤ n ∧ i = .int .i64 ((n - k : Nat) : Int) ∧ (⟨e0, b0'⟩ : Hf) ∉ L.take (n - k) ∧ Own w.heap.size w wr [.cells b1 [.int .i64 e0, .bool b0'], .rd A b0 o0 (hR L)])
  case atStart => exact ⟨Nat.le_refl _, by simp, by simp, H⟩
  case round =>
    clear H
    obtain ⟨hk, rfl, hno, H⟩ := hrel
    have HNO := Lib.hid hno
    clear hno
    by_cases hlt : 0 < gk
    · obtain ⟨j, hj⟩ : ∃ j, n - gk = j := ⟨_, rfl⟩
      have hjl : j < n := by omega
      rw [hj] at HNO ⊢
      obtain ⟨e, b, he⟩ := hf_get (by omega : j < L.length)
      obtain rfl := H.rdAddr m1 (hR_pos (by omega : j < L.length))
      have hp := h_at (A := some ⟨b0, o0, none⟩) (bb := b0) (off := o0) he
      have HJ := Lib.hid hj
      have HE := Lib.hid he
      clear hj he hn'
      by_cases hd : (⟨e, b⟩ : Hf) = ⟨e0, b0'⟩
      · have hq2 : (decide (e = e0) && decide (b = b0')) = true := (hf_eq ⟨e, b⟩ ⟨e0, b0'⟩).trans (decide_eq_true hd)
        have HD := Lib.hid hd
        clear hd
        have tk0 : True := trivial
        go_wp2_with (first
          | (guard_target =~ Code.wp _ (Code.region 4 _ true) _ _ _; refine region_treeC0 4 (G := True) (.q 0 (.q 1 (.q 2 (.q 3 (.q 4 (.q 5 .nil)))))) (by kernel_rfl) (by intro c a d v w h; cases d <;> exact h) (by kernel_rfl) H ⟨trivial⟩ (fun _ w3 H2 => ?_); (clear H; (try clear w2); revert w3; intro w2 H))
          | (guard_target =~ wpTreeC _ _ _ _ _ _ _; first | (guard_target =~ wpTreeC _ _ _ (Tr.e _ Tr.nil) _ _ _; refine treeC_last (by decide +kernel) H rfl rfl (fun w3 H2 K hK => ?_); clear H; (try clear w2); (revert w3; intro w2 H); simp only [List.getElem_toArray, List.getElem_cons_succ, List.getElem_cons_zero]; (first | fail); simp only [Act.put, List.setIfInBounds_toArray, List.set_cons_succ, List.set_cons_zero, hq2]) | (guard_target =~ wpTreeC _ _ _ (Tr.q _ _) _ _ _; first | (refine treeC_quiet ⟨_, H, by repeat first | exact .here | apply Suf.there⟩ rfl rfl rfl (fun K hK => ?_); simp only [List.getElem_toArray, List.getElem_cons_succ, List.getElem_cons_zero]; first | (guard_target =~ Oper.quiet _ (Oper.mk _ (.load _ _) _ _ _ _) _ _ _; (first | (refine q_loadN (cs := ?_) (r := ?_) rfl rfl ?_ ?_ ?_ ?_ (hK _ ?_); rotate_left 2; (with_reducible assumption); (repeat first | exact .head _ | apply List.Mem.tail); (focus (intro _; simp [hq2]; done)); (focus (intro _; simp [hq2]; done))) | (refine q_loadNC (row := ?_) rfl rfl ?_ ?_ ?_ (hK _ ?_); rotate_left 1; (repeat first | exact .head _ | apply List.Mem.tail); (focus (intro _; simp [hq2]; done)); (focus (intro _; simp [hq2]; done)))); clear hK K; simp only [Act.put, List.setIfInBounds_toArray, List.set_cons_succ, List.set_cons_zero, hq2]) | (go_big_quiet_op; (try refine ⟨_, fun _ _ => rfl, ?_⟩); refine hK _ ?_; clear hK K)) | (refine treeC_call (v := ?_) ⟨_, H, by repeat first | exact .here | apply Suf.there⟩ rfl rfl (fun w3 H K hK => ?_) ?_; rotate_left 1; (focus (simp only [List.getElem_toArray, List.getElem_cons_succ, List.getElem_cons_zero]; first | (go_big_op; first | exact hK _ (Ext.refl _)))); simp only [List.getElem_toArray, List.getElem_cons_succ, List.getElem_cons_zero, Act.put, List.setIfInBounds_toArray, List.set_cons_succ, List.set_cons_zero, hq2]) | (refine treeC_skip ⟨_, H, by repeat first | exact .here | apply Suf.there⟩ rfl rfl ?_; simp only [List.getElem_toArray, List.getElem_cons_succ, List.getElem_cons_zero, Act.put, List.setIfInBounds_toArray, List.set_cons_succ, List.set_cons_zero, hq2])) | (guard_target =~ wpTreeC _ _ _ (Tr.both _ _) _ _ _; refine treeC_both ?_ ?_) | (guard_target =~ wpTreeC _ _ _ (Tr.e _ _) _ _ _; first | (refine treeC_one H rfl rfl (fun w3 H2 K hK => ?_); clear H; (try clear w2); (revert w3; intro w2 H); simp only [List.getElem_toArray, List.getElem_cons_succ, List.getElem_cons_zero]; first | ((first | fail); simp only [Act.put, List.setIfInBounds_toArray, List.set_cons_succ, List.set_cons_zero, hq2]) | (go_big_op; (first | fail))) | (refine treeC_one_skip (fun w3 hx => ⟨_, H.ext hx, by repeat first | exact .here | apply Suf.there⟩) rfl rfl (fun w3 hx => ?_); replace H := H.ext hx; clear hx; (try clear w2); revert w3; intro w2 H; simp only [List.getElem_toArray, List.getElem_cons_succ, List.getElem_cons_zero, Act.put, List.setIfInBounds_toArray, List.set_cons_succ, List.set_cons_zero, hq2])) | (guard_target =~ wpTreeC _ _ _ Tr.nil _ _ _; refine treeC_nil H (fun w3 H2 => ?_); clear H; (try clear w2); revert w3; intro w2 H)))
        go_ret
        exact ⟨ret_b (by rw [← HV.out]; exact (decide_eq_true (by rw [← HD.out]; exact List.mem_of_getElem? HE.out)).symm), H.below⟩
      · have hq2 : (decide (e = e0) && decide (b = b0')) = false := (hf_eq ⟨e, b⟩ ⟨e0, b0'⟩).trans (decide_eq_false hd)
        have HD := Lib.hid hd
        clear hd
        have tk0 : True := trivial
        go_wp2_with (first
          | (guard_target =~ Code.wp _ (Code.region 4 _ true) _ _ _; refine region_treeC0 4 (G := True) (.q 0 (.q 1 (.q 2 (.q 3 (.q 4 (.q 5 .nil)))))) (by kernel_rfl) (by intro c a d v w h; cases d <;> exact h) (by kernel_rfl) H ⟨trivial⟩ (fun _ w3 H2 => ?_); (clear H; (try clear w2); revert w3; intro w2 H))
          | (guard_target =~ wpTreeC _ _ _ _ _ _ _; first | (guard_target =~ wpTreeC _ _ _ (Tr.e _ Tr.nil) _ _ _; refine treeC_last (by decide +kernel) H rfl rfl (fun w3 H2 K hK => ?_); clear H; (try clear w2); (revert w3; intro w2 H); simp only [List.getElem_toArray, List.getElem_cons_succ, List.getElem_cons_zero]; (first | fail); simp only [Act.put, List.setIfInBounds_toArray, List.set_cons_succ, List.set_cons_zero, hq2]) | (guard_target =~ wpTreeC _ _ _ (Tr.q _ _) _ _ _; first | (refine treeC_quiet ⟨_, H, by repeat first | exact .here | apply Suf.there⟩ rfl rfl rfl (fun K hK => ?_); simp only [List.getElem_toArray, List.getElem_cons_succ, List.getElem_cons_zero]; first | (guard_target =~ Oper.quiet _ (Oper.mk _ (.load _ _) _ _ _ _) _ _ _; (first | (refine q_loadN (cs := ?_) (r := ?_) rfl rfl ?_ ?_ ?_ ?_ (hK _ ?_); rotate_left 2; (with_reducible assumption); (repeat first | exact .head _ | apply List.Mem.tail); (focus (intro _; simp [hq2]; done)); (focus (intro _; simp [hq2]; done))) | (refine q_loadNC (row := ?_) rfl rfl ?_ ?_ ?_ (hK _ ?_); rotate_left 1; (repeat first | exact .head _ | apply List.Mem.tail); (focus (intro _; simp [hq2]; done)); (focus (intro _; simp [hq2]; done)))); clear hK K; simp only [Act.put, List.setIfInBounds_toArray, List.set_cons_succ, List.set_cons_zero, hq2]) | (go_big_quiet_op; (try refine ⟨_, fun _ _ => rfl, ?_⟩); refine hK _ ?_; clear hK K)) | (refine treeC_call (v := ?_) ⟨_, H, by repeat first | exact .here | apply Suf.there⟩ rfl rfl (fun w3 H K hK => ?_) ?_; rotate_left 1; (focus (simp only [List.getElem_toArray, List.getElem_cons_succ, List.getElem_cons_zero]; first | (go_big_op; first | exact hK _ (Ext.refl _)))); simp only [List.getElem_toArray, List.getElem_cons_succ, List.getElem_cons_zero, Act.put, List.setIfInBounds_toArray, List.set_cons_succ, List.set_cons_zero, hq2]) | (refine treeC_skip ⟨_, H, by repeat first | exact .here | apply Suf.there⟩ rfl rfl ?_; simp only [List.getElem_toArray, List.getElem_cons_succ, List.getElem_cons_zero, Act.put, List.setIfInBounds_toArray, List.set_cons_succ, List.set_cons_zero, hq2])) | (guard_target =~ wpTreeC _ _ _ (Tr.both _ _) _ _ _; refine treeC_both ?_ ?_) | (guard_target =~ wpTreeC _ _ _ (Tr.e _ _) _ _ _; first | (refine treeC_one H rfl rfl (fun w3 H2 K hK => ?_); clear H; (try clear w2); (revert w3; intro w2 H); simp only [List.getElem_toArray, List.getElem_cons_succ, List.getElem_cons_zero]; first | ((first | fail); simp only [Act.put, List.setIfInBounds_toArray, List.set_cons_succ, List.set_cons_zero, hq2]) | (go_big_op; (first | fail))) | (refine treeC_one_skip (fun w3 hx => ⟨_, H.ext hx, by repeat first | exact .here | apply Suf.there⟩) rfl rfl (fun w3 hx => ?_); replace H := H.ext hx; clear hx; (try clear w2); revert w3; intro w2 H; simp only [List.getElem_toArray, List.getElem_cons_succ, List.getElem_cons_zero, Act.put, List.setIfInBounds_toArray, List.set_cons_succ, List.set_cons_zero, hq2])) | (guard_target =~ wpTreeC _ _ _ Tr.nil _ _ _; refine treeC_nil H (fun w3 H2 => ?_); clear H; (try clear w2); revert w3; intro w2 H)))
        go_roundg (gk - 1)
        case rel => exact ⟨by omega, by have := HJ.out; congr 1; omega, by rw [show n - (gk - 1) = j + 1 by have := HJ.out; omega]; exact has_step HE.out HNO.out HD.out, H⟩
        case measure => omega
    · obtain rfl : gk = 0 := by omega
      clear hn'
      have tk0 : True := trivial
      go_wp2_with (first | fail)
      go_ret
      exact ⟨ret_b (by rw [← HV.out]; exact (decide_eq_false (by have := HNO.out; rwa [Nat.sub_zero, HN.out, List.take_length] at this)).symm), H.below⟩
theorem same_no {L M : List Hf} {j : Nat} {g h : Hf} (hg : L[j]? = some g) (hh : M[j]? = some h) (hne : g ≠ h) : L ≠ M := by
  rintro rfl
  rw [hg] at hh; injection hh with hh; exact hne hh
theorem same_step {L M : List Hf} {j : Nat} {g : Hf} (hg : L[j]? = some g) (hh : M[j]? = some g) (h : L.take j = M.take j) : L.take (j + 1) = M.take (j + 1) := by
  rw [List.take_add_one, List.take_add_one, hg, hh, h]
set_option maxRecDepth 100000 in
set_option maxHeartbeats 4000000 in
theorem same_any (L M : List Hf) (A A2 : Option Addr) (n m c c2 : Nat) (F : Nat → Prop) (w : World) (hn : n = L.length) (hm : m = M.length) (hs : Sl F w A (hR L)) (hs2 : Sl F w A2 (hR M)) (hl : n ≤ 1000000) (hl2 : m ≤ 1000000) :
    Calls Try.prog 18 #[.slice A n c, .slice A2 m c2] w fun e w' => e = .returned (.bool (decide (L = M))) ∧ Below w.heap.size w w' := by
  obtain ⟨o, hv⟩ : ∃ o, decide (L = M) = o := ⟨_, rfl⟩
  have HV := Lib.hid hv
  rw [hv]; clear hv
  obtain ⟨b0, o0, H1, f0⟩ := (Own.start w).addSl (hs.ro (by rfl))
  obtain ⟨b9, o9, H, f9⟩ := H1.addSl (hs2.ro (by rfl))
  clear hs hs2 H1
  have HN := Lib.hid hn
  have HM := Lib.hid hm
  clear hn hm
  have hq := eqH_neq
  have hg := eqH_guard
  by_cases hnm : n = m
  · subst hnm
    go_enter Try.func18, Try.ntmps18
    go_wp2_with (first | fail)
    go_loopg [5] n (fun k i wr => k ≤ n ∧ i = .int .i64 ((n - k : Nat) : Int) ∧ L.take (n - k) = M.take (n - k) ∧ Own w.heap.size w wr [.rd A2 b9 o9 (hR M), .rd A b0 o0 (hR L)])
    case atStart => exact ⟨Nat.le_refl _, by simp, by simp, H⟩
    case round =>
      clear H
      obtain ⟨hk, rfl, hno, H⟩ := hrel
      have HNO := Lib.hid hno
      clear hno
      by_cases hlt : 0 < gk
      · obtain ⟨j, hj⟩ : ∃ j, n - gk = j := ⟨_, rfl⟩
        have hjl : j < n := by omega
        rw [hj] at HNO ⊢
        obtain ⟨e, b, he⟩ := hf_get (by have := HN.out; omega : j < L.length)
        obtain ⟨f, d, hf⟩ := hf_get (by have := HM.out; omega : j < M.length)
        obtain rfl := H.rdAddr m1 (hR_pos (by have := HN.out; omega : j < L.length))
        obtain rfl := H.rdAddr m0 (hR_pos (by have := HM.out; omega : j < M.length))
        have hp := h_at (A := some ⟨b0, o0, none⟩) (bb := b0) (off := o0) he
        have hp2 := h_at (A := some ⟨b9, o9, none⟩) (bb := b9) (off := o9) hf
        have HJ := Lib.hid hj
        have HE := Lib.hid he
        have HF := Lib.hid hf
        clear hj he hf
        by_cases hd : (⟨e, b⟩ : Hf) = ⟨f, d⟩
        · have hq2 : (decide (e = f) && decide (b = d)) = true := (hf_eq ⟨e, b⟩ ⟨f, d⟩).trans (decide_eq_true hd)
          have HD := Lib.hid hd
          clear hd
          go_wp2_with (first
            | (guard_target =~ Code.wp _ (Code.region 6 _ true) _ _ _; refine region_treeC0 6 (G := True) (.q 0 (.q 1 (.q 2 (.q 3 (.q 4 (.q 5 (.q 6 (.q 7 (.q 8 .nil))))))))) (by kernel_rfl) (by intro c a d v w h; cases d <;> exact h) (by kernel_rfl) H ⟨trivial⟩ (fun _ w3 H2 => ?_); (clear H; (try clear w2); revert w3; intro w2 H))
            | (guard_target =~ wpTreeC _ _ _ _ _ _ _; first | (guard_target =~ wpTreeC _ _ _ (Tr.e _ Tr.nil) _ _ _; refine treeC_last (by decide +kernel) H rfl rfl (fun w3 H2 K hK => ?_); clear H; (try clear w2); (revert w3; intro w2 H); simp only [List.getElem_toArray, List.getElem_cons_succ, List.getElem_cons_zero]; (first | fail); simp only [Act.put, List.setIfInBounds_toArray, List.set_cons_succ, List.set_cons_zero, hq2]) | (guard_target =~ wpTreeC _ _ _ (Tr.q _ _) _ _ _; first | (refine treeC_quiet ⟨_, H, by repeat first | exact .here | apply Suf.there⟩ rfl rfl rfl (fun K hK => ?_); simp only [List.getElem_toArray, List.getElem_cons_succ, List.getElem_cons_zero]; first | (guard_target =~ Oper.quiet _ (Oper.mk _ (.load _ _) _ _ _ _) _ _ _; (refine q_loadN (cs := ?_) (r := ?_) rfl rfl ?_ ?_ ?_ ?_ (hK _ ?_); rotate_left 2; (with_reducible assumption); (repeat first | exact .head _ | apply List.Mem.tail); (focus (intro _; simp [hq2]; done)); (focus (intro _; simp [hq2]; done))); clear hK K; simp only [Act.put, List.setIfInBounds_toArray, List.set_cons_succ, List.set_cons_zero, hq2]) | (go_big_quiet_op; (try refine ⟨_, fun _ _ => rfl, ?_⟩); refine hK _ ?_; clear hK K)) | (refine treeC_call (v := ?_) ⟨_, H, by repeat first | exact .here | apply Suf.there⟩ rfl rfl (fun w3 H K hK => ?_) ?_; rotate_left 1; (focus (simp only [List.getElem_toArray, List.getElem_cons_succ, List.getElem_cons_zero]; first | (go_big_op; first | exact hK _ (Ext.refl _)))); simp only [List.getElem_toArray, List.getElem_cons_succ, List.getElem_cons_zero, Act.put, List.setIfInBounds_toArray, List.set_cons_succ, List.set_cons_zero, hq2]) | (refine treeC_skip ⟨_, H, by repeat first | exact .here | apply Suf.there⟩ rfl rfl ?_; simp only [List.getElem_toArray, List.getElem_cons_succ, List.getElem_cons_zero, Act.put, List.setIfInBounds_toArray, List.set_cons_succ, List.set_cons_zero, hq2])) | (guard_target =~ wpTreeC _ _ _ (Tr.both _ _) _ _ _; refine treeC_both ?_ ?_) | (guard_target =~ wpTreeC _ _ _ (Tr.e _ _) _ _ _; first | (refine treeC_one H rfl rfl (fun w3 H2 K hK => ?_); clear H; (try clear w2); (revert w3; intro w2 H); simp only [List.getElem_toArray, List.getElem_cons_succ, List.getElem_cons_zero]; first | ((first | fail); simp only [Act.put, List.setIfInBounds_toArray, List.set_cons_succ, List.set_cons_zero, hq2]) | (go_big_op; (first | fail))) | (refine treeC_one_skip (fun w3 hx => ⟨_, H.ext hx, by repeat first | exact .here | apply Suf.there⟩) rfl rfl (fun w3 hx => ?_); replace H := H.ext hx; clear hx; (try clear w2); revert w3; intro w2 H; simp only [List.getElem_toArray, List.getElem_cons_succ, List.getElem_cons_zero, Act.put, List.setIfInBounds_toArray, List.set_cons_succ, List.set_cons_zero, hq2])) | (guard_target =~ wpTreeC _ _ _ Tr.nil _ _ _; refine treeC_nil H (fun w3 H2 => ?_); clear H; (try clear w2); revert w3; intro w2 H)))
          go_roundg (gk - 1)
          case rel => exact ⟨by omega, by have := HJ.out; congr 1; omega, by rw [show n - (gk - 1) = j + 1 by have := HJ.out; omega]; exact same_step HE.out (by rw [HD.out]; exact HF.out) HNO.out, H⟩
          case measure => omega
        · have hq2 : (decide (e = f) && decide (b = d)) = false := (hf_eq ⟨e, b⟩ ⟨f, d⟩).trans (decide_eq_false hd)
          have HD := Lib.hid hd
          clear hd
          go_wp2_with (first
            | (guard_target =~ Code.wp _ (Code.region 6 _ true) _ _ _; refine region_treeC0 6 (G := True) (.q 0 (.q 1 (.q 2 (.q 3 (.q 4 (.q 5 (.q 6 (.q 7 (.q 8 .nil))))))))) (by kernel_rfl) (by intro c a d v w h; cases d <;> exact h) (by kernel_rfl) H ⟨trivial⟩ (fun _ w3 H2 => ?_); (clear H; (try clear w2); revert w3; intro w2 H))
            | (guard_target =~ wpTreeC _ _ _ _ _ _ _; first | (guard_target =~ wpTreeC _ _ _ (Tr.e _ Tr.nil) _ _ _; refine treeC_last (by decide +kernel) H rfl rfl (fun w3 H2 K hK => ?_); clear H; (try clear w2); (revert w3; intro w2 H); simp only [List.getElem_toArray, List.getElem_cons_succ, List.getElem_cons_zero]; (first | fail); simp only [Act.put, List.setIfInBounds_toArray, List.set_cons_succ, List.set_cons_zero, hq2]) | (guard_target =~ wpTreeC _ _ _ (Tr.q _ _) _ _ _; first | (refine treeC_quiet ⟨_, H, by repeat first | exact .here | apply Suf.there⟩ rfl rfl rfl (fun K hK => ?_); simp only [List.getElem_toArray, List.getElem_cons_succ, List.getElem_cons_zero]; first | (guard_target =~ Oper.quiet _ (Oper.mk _ (.load _ _) _ _ _ _) _ _ _; (refine q_loadN (cs := ?_) (r := ?_) rfl rfl ?_ ?_ ?_ ?_ (hK _ ?_); rotate_left 2; (with_reducible assumption); (repeat first | exact .head _ | apply List.Mem.tail); (focus (intro _; simp [hq2]; done)); (focus (intro _; simp [hq2]; done))); clear hK K; simp only [Act.put, List.setIfInBounds_toArray, List.set_cons_succ, List.set_cons_zero, hq2]) | (go_big_quiet_op; (try refine ⟨_, fun _ _ => rfl, ?_⟩); refine hK _ ?_; clear hK K)) | (refine treeC_call (v := ?_) ⟨_, H, by repeat first | exact .here | apply Suf.there⟩ rfl rfl (fun w3 H K hK => ?_) ?_; rotate_left 1; (focus (simp only [List.getElem_toArray, List.getElem_cons_succ, List.getElem_cons_zero]; first | (go_big_op; first | exact hK _ (Ext.refl _)))); simp only [List.getElem_toArray, List.getElem_cons_succ, List.getElem_cons_zero, Act.put, List.setIfInBounds_toArray, List.set_cons_succ, List.set_cons_zero, hq2]) | (refine treeC_skip ⟨_, H, by repeat first | exact .here | apply Suf.there⟩ rfl rfl ?_; simp only [List.getElem_toArray, List.getElem_cons_succ, List.getElem_cons_zero, Act.put, List.setIfInBounds_toArray, List.set_cons_succ, List.set_cons_zero, hq2])) | (guard_target =~ wpTreeC _ _ _ (Tr.both _ _) _ _ _; refine treeC_both ?_ ?_) | (guard_target =~ wpTreeC _ _ _ (Tr.e _ _) _ _ _; first | (refine treeC_one H rfl rfl (fun w3 H2 K hK => ?_); clear H; (try clear w2); (revert w3; intro w2 H); simp only [List.getElem_toArray, List.getElem_cons_succ, List.getElem_cons_zero]; first | ((first | fail); simp only [Act.put, List.setIfInBounds_toArray, List.set_cons_succ, List.set_cons_zero, hq2]) | (go_big_op; (first | fail))) | (refine treeC_one_skip (fun w3 hx => ⟨_, H.ext hx, by repeat first | exact .here | apply Suf.there⟩) rfl rfl (fun w3 hx => ?_); replace H := H.ext hx; clear hx; (try clear w2); revert w3; intro w2 H; simp only [List.getElem_toArray, List.getElem_cons_succ, List.getElem_cons_zero, Act.put, List.setIfInBounds_toArray, List.set_cons_succ, List.set_cons_zero, hq2])) | (guard_target =~ wpTreeC _ _ _ Tr.nil _ _ _; refine treeC_nil H (fun w3 H2 => ?_); clear H; (try clear w2); revert w3; intro w2 H)))
          go_ret
          exact ⟨ret_b (by rw [← HV.out]; exact (decide_eq_false (same_no HE.out HF.out HD.out)).symm), H.below⟩
      · obtain rfl : gk = 0 := by omega
        go_wp2_with (first | fail)
        go_ret
        exact ⟨ret_b (by rw [← HV.out]; exact (decide_eq_true (by have := HNO.out; rwa [Nat.sub_zero, List.take_of_length_le (by have := HN.out; omega), List.take_of_length_le (by have := HM.out; omega)] at this)).symm), H.below⟩
  · have hnz : ((n : Int) == (m : Int)) = false := by simpa using (by omega : ¬ (n : Int) = m)
    have HX := Lib.hid hnm
    clear hnm
    go_enter Try.func18, Try.ntmps18
    go_wp2_with (first | fail)
    go_ret
    exact ⟨ret_b (by rw [← HV.out]; exact (decide_eq_false (fun q => HX.out (by rw [HN.out, HM.out, q]))).symm), H.below⟩
end Go.Proofs.Ytlhmjhildlnokaa
