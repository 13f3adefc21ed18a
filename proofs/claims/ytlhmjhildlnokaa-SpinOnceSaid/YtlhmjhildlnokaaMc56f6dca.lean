/-
  The walks of the document's small functions on halves: Has, Same, Halves, From.
-/
import Derived.Test.YtlhmjhildlnokaaSpin9
import Derived.Test.YtlhmjhildlnokaaPlan6
import Derived.Test.YtlhmjhildlnokaaOwn7
import Derived.Test.YtlhmjhildlnokaaPlan7
import Derived.Test.YtlhmjhildlnokaaBase
import Derived.Test.YtlhmjhildlnokaaPlan0
import Derived.ChangeArms
namespace Go.Proofs.Ytlhmjhildlnokaa
set_option linter.unusedVariables false
set_option linter.unusedSimpArgs false
open Go.RowKit

theorem eqH_eql (e f : Int) (b c : Bool) (w : World) : (binOp .eql 36 (.agg #[.int .i64 e, .bool b]) (.agg #[.int .i64 f, .bool c])).run Try.prog w = .ok (.bool (decide (e = f) && decide (b = c))) w := by
  rw [hf_eq ⟨e, b⟩ ⟨f, c⟩]; exact eqS_eql (P := Try.prog) (eqH_in ⟨e, b⟩ ⟨f, c⟩) w
theorem eqH_neq (e f : Int) (b c : Bool) (w : World) : (binOp .neq 36 (.agg #[.int .i64 e, .bool b]) (.agg #[.int .i64 f, .bool c])).run Try.prog w = .ok (.bool (!(decide (e = f) && decide (b = c)))) w := by
  rw [hf_eq ⟨e, b⟩ ⟨f, c⟩]; exact eqS_neq (P := Try.prog) (eqH_in ⟨e, b⟩ ⟨f, c⟩) w
theorem eqH_guard (op : BinOp) (x y : Operand) (e f : Int) (b c : Bool) (w : World) : (eqGuard op 36 x y (.agg #[.int .i64 e, .bool b]) (.agg #[.int .i64 f, .bool c])).run Try.prog w = .ok () w := by
  have h : Try.prog.eqGuardType Try.prog.depth 36 = false := by kernel_rfl
  cases op <;> simp [eqGuard, h]
theorem h_at {A : Option Addr} {bb off : Nat} {L : List Hf} {j : Nat} {e : Int} {b : Bool} (h : L[j]? = some ⟨e, b⟩) : (Res.rd A bb off (hR L)).at bb (off + j * 2) [.int .i64 e, .bool b] := at_rdN (by simpa using hR_at h)
theorem hR_pos {L : List Hf} {j : Nat} (h : j < L.length) : 0 < (hR L).length := by
  cases L with
  | nil => simp at h
  | cons a L => simp [hR, h2]
theorem hf_get {L : List Hf} {j : Nat} (h : j < L.length) : ∃ e b, L[j]? = some ⟨e, b⟩ := ⟨_, _, List.getElem?_eq_getElem h⟩
theorem has_step {L : List Hf} {j : Nat} {g h : Hf} (hg : L[j]? = some g) (hn : h ∉ L.take j) (hne : g ≠ h) : h ∉ L.take (j + 1) := by
  rw [List.take_add_one, hg]
  intro q
  rcases List.mem_append.1 q with q | q
  · exact hn q
  · exact hne (by simpa using q : h = g).symm
set_option maxRecDepth 100000 in
set_option maxHeartbeats 4000000 in
theorem has_any (L : List Hf) (A : Option Addr) (n c : Nat) (F : Nat → Prop) (e0 : Int) (b0' : Bool) (w : World) (hn : n = L.length) (hs : Sl F w A (hR L)) (hl : n ≤ 1000000) :
    Calls Try.prog 34 #[.slice A n c, .agg #[.int .i64 e0, .bool b0']] w fun e w' => e = .returned (.bool (decide ((⟨e0, b0'⟩ : Hf) ∈ L))) ∧ Below w.heap.size w w' := by
  obtain ⟨o, hv⟩ : ∃ o, decide ((⟨e0, b0'⟩ : Hf) ∈ L) = o := ⟨_, rfl⟩
  have HV := Lib.hid hv
  rw [hv]; clear hv
  obtain ⟨b0, o0, H, f0⟩ := (Own.start w).addSl (hs.ro (by rfl))
  clear hs
  have HN := Lib.hid hn
  have hn' := hn
  clear hn
  have hq := eqH_eql
  have hg := eqH_guard
  go_enter Try.func34, Try.ntmps34
  have tk0 : True := trivial
  have tk1 : True := trivial
  go_wp2_with (guard_target =~ wpList _ _ _ (_ :: _) _ _; ((guard_target =~ wpList _ _ _ (Oper.mk _ (.box _ _) _ _ _ _ :: _) _ _; refine BigFrame.wpList_want rfl (fun K hK => ?_); refine o_box rfl H rfl (fun w3 b2 he H2 => hK _ _ ?_)); clear hK K he; clear H; (try clear w2); revert w3; intro w2 H; simp [Act.eval, Value.cells, setL, List.getD] at H; (clear tk0; rename Nat => b1)); simp only [Act.put, List.setIfInBounds_toArray, List.set_cons_succ, List.set_cons_zero])
  go_loopg [5] n (fun k i wr => k ≤ n ∧ i = .int .i64 ((n - k : Nat) : Int) ∧ (⟨e0, b0'⟩ : Hf) ∉ L.take (n - k) ∧ Own w.heap.size w wr [.cells b1 [.int .i64 e0, .bool b0'], .rd A b0 o0 (hR L)])
  case atStart => exact ⟨Nat.le_refl _, by simp, by simp, H⟩
  case round =>
    clear H
    obtain ⟨hk, rfl, hno, H⟩ := hrel
    have HNO := Lib.hid hno
    clear hno
    by_cases hlt : 0 < gk
    · obtain ⟨j, hj⟩ : ∃ j, n - gk = j := ⟨_, rfl⟩
      have hjl : j < n := by omega
      rw [hj] at HNO ⊢
      obtain ⟨e, b, he⟩ := hf_get (by omega : j < L.length)
      obtain rfl := H.rdAddr m1 (hR_pos (by omega : j < L.length))
      have hp := h_at (A := some ⟨b0, o0, none⟩) (bb := b0) (off := o0) he
      have HJ := Lib.hid hj
      have HE := Lib.hid he
      clear hj he hn'
      by_cases hd : (⟨e, b⟩ : Hf) = ⟨e0, b0'⟩
      · have hq2 : (decide (e = e0) && decide (b = b0')) = true := (hf_eq ⟨e, b⟩ ⟨e0, b0'⟩).trans (decide_eq_true hd)
        have HD := Lib.hid hd
        clear hd
        have tk0 : True := trivial
        go_wp2_with (first
          | (guard_target =~ Code.wp _ (Code.region 4 _ true) _ _ _; refine region_treeC0 4 (G := True) (.q 0 (.q 1 (.q 2 (.q 3 (.q 4 (.q 5 .nil)))))) (by kernel_rfl) (by intro c a d v w h; cases d <;> exact h) (by kernel_rfl) H ⟨trivial⟩ (fun _ w3 H2 => ?_); (clear H; (try clear w2); revert w3; intro w2 H))
          | (guard_target =~ wpTreeC _ _ _ _ _ _ _; first | (guard_target =~ wpTreeC _ _ _ (Tr.e _ Tr.nil) _ _ _; refine treeC_last (by decide +kernel) H rfl rfl (fun w3 H2 K hK => ?_); clear H; (try clear w2); (revert w3; intro w2 H); simp only [List.getElem_toArray, List.getElem_cons_succ, List.getElem_cons_zero]; (first | fail); simp only [Act.put, List.setIfInBounds_toArray, List.set_cons_succ, List.set_cons_zero, hq2]) | (guard_target =~ wpTreeC _ _ _ (Tr.q _ _) _ _ _; first | (refine treeC_quiet ⟨_, H, by repeat first | exact .here | apply Suf.there⟩ rfl rfl rfl (fun K hK => ?_); simp only [List.getElem_toArray, List.getElem_cons_succ, List.getElem_cons_zero]; first | (guard_target =~ Oper.quiet _ (Oper.mk _ (.load _ _) _ _ _ _) _ _ _; (first | (refine q_loadN (cs := ?_) (r := ?_) rfl rfl ?_ ?_ ?_ ?_ (hK _ ?_); rotate_left 2; (with_reducible assumption); (repeat first | exact .head _ | apply List.Mem.tail); (focus (intro _; simp [hq2]; done)); (focus (intro _; simp [hq2]; done))) | (refine q_loadNC (row := ?_) rfl rfl ?_ ?_ ?_ (hK _ ?_); rotate_left 1; (repeat first | exact .head _ | apply List.Mem.tail); (focus (intro _; simp [hq2]; done)); (focus (intro _; simp [hq2]; done)))); clear hK K; simp only [Act.put, List.setIfInBounds_toArray, List.set_cons_succ, List.set_cons_zero, hq2]) | (go_big_quiet_op; (try refine ⟨_, fun _ _ => rfl, ?_⟩); refine hK _ ?_; clear hK K)) | (refine treeC_call (v := ?_) ⟨_, H, by repeat first | exact .here | apply Suf.there⟩ rfl rfl (fun w3 H K hK => ?_) ?_; rotate_left 1; (focus (simp only [List.getElem_toArray, List.getElem_cons_succ, List.getElem_cons_zero]; first | (go_big_op; first | exact hK _ (Ext.refl _)))); simp only [List.getElem_toArray, List.getElem_cons_succ, List.getElem_cons_zero, Act.put, List.setIfInBounds_toArray, List.set_cons_succ, List.set_cons_zero, hq2]) | (refine treeC_skip ⟨_, H, by repeat first | exact .here | apply Suf.there⟩ rfl rfl ?_; simp only [List.getElem_toArray, List.getElem_cons_succ, List.getElem_cons_zero, Act.put, List.setIfInBounds_toArray, List.set_cons_succ, List.set_cons_zero, hq2])) | (guard_target =~ wpTreeC _ _ _ (Tr.both _ _) _ _ _; refine treeC_both ?_ ?_) | (guard_target =~ wpTreeC _ _ _ (Tr.e _ _) _ _ _; first | (refine treeC_one H rfl rfl (fun w3 H2 K hK => ?_); clear H; (try clear w2); (revert w3; intro w2 H); simp only [List.getElem_toArray, List.getElem_cons_succ, List.getElem_cons_zero]; first | ((first | fail); simp only [Act.put, List.setIfInBounds_toArray, List.set_cons_succ, List.set_cons_zero, hq2]) | (go_big_op; (first | fail))) | (refine treeC_one_skip (fun w3 hx => ⟨_, H.ext hx, by repeat first | exact .here | apply Suf.there⟩) rfl rfl (fun w3 hx => ?_); replace H := H.ext hx; clear hx; (try clear w2); revert w3; intro w2 H; simp only [List.getElem_toArray, List.getElem_cons_succ, List.getElem_cons_zero, Act.put, List.setIfInBounds_toArray, List.set_cons_succ, List.set_cons_zero, hq2])) | (guard_target =~ wpTreeC _ _ _ Tr.nil _ _ _; refine treeC_nil H (fun w3 H2 => ?_); clear H; (try clear w2); revert w3; intro w2 H)))
        go_ret
        exact ⟨ret_b (by rw [← HV.out]; exact (decide_eq_true (by rw [← HD.out]; exact List.mem_of_getElem? HE.out)).symm), H.below⟩
      · have hq2 : (decide (e = e0) && decide (b = b0')) = false := (hf_eq ⟨e, b⟩ ⟨e0, b0'⟩).trans (decide_eq_false hd)
        have HD := Lib.hid hd
        clear hd
        have tk0 : True := trivial
        go_wp2_with (first
          | (guard_target =~ Code.wp _ (Code.region 4 _ true) _ _ _; refine region_treeC0 4 (G := True) (.q 0 (.q 1 (.q 2 (.q 3 (.q 4 (.q 5 .nil)))))) (by kernel_rfl) (by intro c a d v w h; cases d <;> exact h) (by kernel_rfl) H ⟨trivial⟩ (fun _ w3 H2 => ?_); (clear H; (try clear w2); revert w3; intro w2 H))
          | (guard_target =~ wpTreeC _ _ _ _ _ _ _; first | (guard_target =~ wpTreeC _ _ _ (Tr.e _ Tr.nil) _ _ _; refine treeC_last (by decide +kernel) H rfl rfl (fun w3 H2 K hK => ?_); clear H; (try clear w2); (revert w3; intro w2 H); simp only [List.getElem_toArray, List.getElem_cons_succ, List.getElem_cons_zero]; (first | fail); simp only [Act.put, List.setIfInBounds_toArray, List.set_cons_succ, List.set_cons_zero, hq2]) | (guard_target =~ wpTreeC _ _ _ (Tr.q _ _) _ _ _; first | (refine treeC_quiet ⟨_, H, by repeat first | exact .here | apply Suf.there⟩ rfl rfl rfl (fun K hK => ?_); simp only [List.getElem_toArray, List.getElem_cons_succ, List.getElem_cons_zero]; first | (guard_target =~ Oper.quiet _ (Oper.mk _ (.load _ _) _ _ _ _) _ _ _; (first | (refine q_loadN (cs := ?_) (r := ?_) rfl rfl ?_ ?_ ?_ ?_ (hK _ ?_); rotate_left 2; (with_reducible assumption); (repeat first | exact .head _ | apply List.Mem.tail); (focus (intro _; simp [hq2]; done)); (focus (intro _; simp [hq2]; done))) | (refine q_loadNC (row := ?_) rfl rfl ?_ ?_ ?_ (hK _ ?_); rotate_left 1; (repeat first | exact .head _ | apply List.Mem.tail); (focus (intro _; simp [hq2]; done)); (focus (intro _; simp [hq2]; done)))); clear hK K; simp only [Act.put, List.setIfInBounds_toArray, List.set_cons_succ, List.set_cons_zero, hq2]) | (go_big_quiet_op; (try refine ⟨_, fun _ _ => rfl, ?_⟩); refine hK _ ?_; clear hK K)) | (refine treeC_call (v := ?_) ⟨_, H, by repeat first | exact .here | apply Suf.there⟩ rfl rfl (fun w3 H K hK => ?_) ?_; rotate_left 1; (focus (simp only [List.getElem_toArray, List.getElem_cons_succ, List.getElem_cons_zero]; first | (go_big_op; first | exact hK _ (Ext.refl _)))); simp only [List.getElem_toArray, List.getElem_cons_succ, List.getElem_cons_zero, Act.put, List.setIfInBounds_toArray, List.set_cons_succ, List.set_cons_zero, hq2]) | (refine treeC_skip ⟨_, H, by repeat first | exact .here | apply Suf.there⟩ rfl rfl ?_; simp only [List.getElem_toArray, List.getElem_cons_succ, List.getElem_cons_zero, Act.put, List.setIfInBounds_toArray, List.set_cons_succ, List.set_cons_zero, hq2])) | (guard_target =~ wpTreeC _ _ _ (Tr.both _ _) _ _ _; refine treeC_both ?_ ?_) | (guard_target =~ wpTreeC _ _ _ (Tr.e _ _) _ _ _; first | (refine treeC_one H rfl rfl (fun w3 H2 K hK => ?_); clear H; (try clear w2); (revert w3; intro w2 H); simp only [List.getElem_toArray, List.getElem_cons_succ, List.getElem_cons_zero]; first | ((first | fail); simp only [Act.put, List.setIfInBounds_toArray, List.set_cons_succ, List.set_cons_zero, hq2]) | (go_big_op; (first | fail))) | (refine treeC_one_skip (fun w3 hx => ⟨_, H.ext hx, by repeat first | exact .here | apply Suf.there⟩) rfl rfl (fun w3 hx => ?_); replace H := H.ext hx; clear hx; (try clear w2); revert w3; intro w2 H; simp only [List.getElem_toArray, List.getElem_cons_succ, List.getElem_cons_zero, Act.put, List.setIfInBounds_toArray, List.set_cons_succ, List.set_cons_zero, hq2])) | (guard_target =~ wpTreeC _ _ _ Tr.nil _ _ _; refine treeC_nil H (fun w3 H2 => ?_); clear H; (try clear w2); revert w3; intro w2 H)))
        go_roundg (gk - 1)
        case rel => exact ⟨by omega, by have := HJ.out; congr 1; omega, by rw [show n - (gk - 1) = j + 1 by have := HJ.out; omega]; exact has_step HE.out HNO.out HD.out, H⟩
        case measure => omega
    · obtain rfl : gk = 0 := by omega
      clear hn'
      have tk0 : True := trivial
      go_wp2_with (first | fail)
      go_ret
      exact ⟨ret_b (by rw [← HV.out]; exact (decide_eq_false (by have := HNO.out; rwa [Nat.sub_zero, HN.out, List.take_length] at this)).symm), H.below⟩
theorem same_no {L M : List Hf} {j : Nat} {g h : Hf} (hg : L[j]? = some g) (hh : M[j]? = some h) (hne : g ≠ h) : L ≠ M := by
  rintro rfl
  rw [hg] at hh; injection hh with hh; exact hne hh
theorem same_step {L M : List Hf} {j : Nat} {g : Hf} (hg : L[j]? = some g) (hh : M[j]? = some g) (h : L.take j = M.take j) : L.take (j + 1) = M.take (j + 1) := by
  rw [List.take_add_one, List.take_add_one, hg, hh, h]
set_option maxRecDepth 100000 in
set_option maxHeartbeats 4000000 in
theorem same_any (L M : List Hf) (A A2 : Option Addr) (n m c c2 : Nat) (F : Nat → Prop) (w : World) (hn : n = L.length) (hm : m = M.length) (hs : Sl F w A (hR L)) (hs2 : Sl F w A2 (hR M)) (hl : n ≤ 1000000) (hl2 : m ≤ 1000000) :
    Calls Try.prog 18 #[.slice A n c, .slice A2 m c2] w fun e w' => e = .returned (.bool (decide (L = M))) ∧ Below w.heap.size w w' := by
  obtain ⟨o, hv⟩ : ∃ o, decide (L = M) = o := ⟨_, rfl⟩
  have HV := Lib.hid hv
  rw [hv]; clear hv
  obtain ⟨b0, o0, H1, f0⟩ := (Own.start w).addSl (hs.ro (by rfl))
  obtain ⟨b9, o9, H, f9⟩ := H1.addSl (hs2.ro (by rfl))
  clear hs hs2 H1
  have HN := Lib.hid hn
  have HM := Lib.hid hm
  clear hn hm
  have hq := eqH_neq
  have hg := eqH_guard
  by_cases hnm : n = m
  · subst hnm
    go_enter Try.func18, Try.ntmps18
    go_wp2_with (first | fail)
    go_loopg [5] n (fun k i wr => k ≤ n ∧ i = .int .i64 ((n - k : Nat) : Int) ∧ L.take (n - k) = M.take (n - k) ∧ Own w.heap.size w wr [.rd A2 b9 o9 (hR M), .rd A b0 o0 (hR L)])
    case atStart => exact ⟨Nat.le_refl _, by simp, by simp, H⟩
    case round =>
      clear H
      obtain ⟨hk, rfl, hno, H⟩ := hrel
      have HNO := Lib.hid hno
      clear hno
      by_cases hlt : 0 < gk
      · obtain ⟨j, hj⟩ : ∃ j, n - gk = j := ⟨_, rfl⟩
        have hjl : j < n := by omega
        rw [hj] at HNO ⊢
        obtain ⟨e, b, he⟩ := hf_get (by have := HN.out; omega : j < L.length)
        obtain ⟨f, d, hf⟩ := hf_get (by have := HM.out; omega : j < M.length)
        obtain rfl := H.rdAddr m1 (hR_pos (by have := HN.out; omega : j < L.length))
        obtain rfl := H.rdAddr m0 (hR_pos (by have := HM.out; omega : j < M.length))
        have hp := h_at (A := some ⟨b0, o0, none⟩) (bb := b0) (off := o0) he
        have hp2 := h_at (A := some ⟨b9, o9, none⟩) (bb := b9) (off := o9) hf
        have HJ := Lib.hid hj
        have HE := Lib.hid he
        have HF := Lib.hid hf
        clear hj he hf
        by_cases hd : (⟨e, b⟩ : Hf) = ⟨f, d⟩
        · have hq2 : (decide (e = f) && decide (b = d)) = true := (hf_eq ⟨e, b⟩ ⟨f, d⟩).trans (decide_eq_true hd)
          have HD := Lib.hid hd
          clear hd
          go_wp2_with (first
            | (guard_target =~ Code.wp _ (Code.region 6 _ true) _ _ _; refine region_treeC0 6 (G := True) (.q 0 (.q 1 (.q 2 (.q 3 (.q 4 (.q 5 (.q 6 (.q 7 (.q 8 .nil))))))))) (by kernel_rfl) (by intro c a d v w h; cases d <;> exact h) (by kernel_rfl) H ⟨trivial⟩ (fun _ w3 H2 => ?_); (clear H; (try clear w2); revert w3; intro w2 H))
            | (guard_target =~ wpTreeC _ _ _ _ _ _ _; first | (guard_target =~ wpTreeC _ _ _ (Tr.e _ Tr.nil) _ _ _; refine treeC_last (by decide +kernel) H rfl rfl (fun w3 H2 K hK => ?_); clear H; (try clear w2); (revert w3; intro w2 H); simp only [List.getElem_toArray, List.getElem_cons_succ, List.getElem_cons_zero]; (first | fail); simp only [Act.put, List.setIfInBounds_toArray, List.set_cons_succ, List.set_cons_zero, hq2]) | (guard_target =~ wpTreeC _ _ _ (Tr.q _ _) _ _ _; first | (refine treeC_quiet ⟨_, H, by repeat first | exact .here | apply Suf.there⟩ rfl rfl rfl (fun K hK => ?_); simp only [List.getElem_toArray, List.getElem_cons_succ, List.getElem_cons_zero]; first | (guard_target =~ Oper.quiet _ (Oper.mk _ (.load _ _) _ _ _ _) _ _ _; (refine q_loadN (cs := ?_) (r := ?_) rfl rfl ?_ ?_ ?_ ?_ (hK _ ?_); rotate_left 2; (with_reducible assumption); (repeat first | exact .head _ | apply List.Mem.tail); (focus (intro _; simp [hq2]; done)); (focus (intro _; simp [hq2]; done))); clear hK K; simp only [Act.put, List.setIfInBounds_toArray, List.set_cons_succ, List.set_cons_zero, hq2]) | (go_big_quiet_op; (try refine ⟨_, fun _ _ => rfl, ?_⟩); refine hK _ ?_; clear hK K)) | (refine treeC_call (v := ?_) ⟨_, H, by repeat first | exact .here | apply Suf.there⟩ rfl rfl (fun w3 H K hK => ?_) ?_; rotate_left 1; (focus (simp only [List.getElem_toArray, List.getElem_cons_succ, List.getElem_cons_zero]; first | (go_big_op; first | exact hK _ (Ext.refl _)))); simp only [List.getElem_toArray, List.getElem_cons_succ, List.getElem_cons_zero, Act.put, List.setIfInBounds_toArray, List.set_cons_succ, List.set_cons_zero, hq2]) | (refine treeC_skip ⟨_, H, by repeat first | exact .here | apply Suf.there⟩ rfl rfl ?_; simp only [List.getElem_toArray, List.getElem_cons_succ, List.getElem_cons_zero, Act.put, List.setIfInBounds_toArray, List.set_cons_succ, List.set_cons_zero, hq2])) | (guard_target =~ wpTreeC _ _ _ (Tr.both _ _) _ _ _; refine treeC_both ?_ ?_) | (guard_target =~ wpTreeC _ _ _ (Tr.e _ _) _ _ _; first | (refine treeC_one H rfl rfl (fun w3 H2 K hK => ?_); clear H; (try clear w2); (revert w3; intro w2 H); simp only [List.getElem_toArray, List.getElem_cons_succ, List.getElem_cons_zero]; first | ((first | fail); simp only [Act.put, List.setIfInBounds_toArray, List.set_cons_succ, List.set_cons_zero, hq2]) | (go_big_op; (first | fail))) | (refine treeC_one_skip (fun w3 hx => ⟨_, H.ext hx, by repeat first | exact .here | apply Suf.there⟩) rfl rfl (fun w3 hx => ?_); replace H := H.ext hx; clear hx; (try clear w2); revert w3; intro w2 H; simp only [List.getElem_toArray, List.getElem_cons_succ, List.getElem_cons_zero, Act.put, List.setIfInBounds_toArray, List.set_cons_succ, List.set_cons_zero, hq2])) | (guard_target =~ wpTreeC _ _ _ Tr.nil _ _ _; refine treeC_nil H (fun w3 H2 => ?_); clear H; (try clear w2); revert w3; intro w2 H)))
          go_roundg (gk - 1)
          case rel => exact ⟨by omega, by have := HJ.out; congr 1; omega, by rw [show n - (gk - 1) = j + 1 by have := HJ.out; omega]; exact same_step HE.out (by rw [HD.out]; exact HF.out) HNO.out, H⟩
          case measure => omega
        · have hq2 : (decide (e = f) && decide (b = d)) = false := (hf_eq ⟨e, b⟩ ⟨f, d⟩).trans (decide_eq_false hd)
          have HD := Lib.hid hd
          clear hd
          go_wp2_with (first
            | (guard_target =~ Code.wp _ (Code.region 6 _ true) _ _ _; refine region_treeC0 6 (G := True) (.q 0 (.q 1 (.q 2 (.q 3 (.q 4 (.q 5 (.q 6 (.q 7 (.q 8 .nil))))))))) (by kernel_rfl) (by intro c a d v w h; cases d <;> exact h) (by kernel_rfl) H ⟨trivial⟩ (fun _ w3 H2 => ?_); (clear H; (try clear w2); revert w3; intro w2 H))
            | (guard_target =~ wpTreeC _ _ _ _ _ _ _; first | (guard_target =~ wpTreeC _ _ _ (Tr.e _ Tr.nil) _ _ _; refine treeC_last (by decide +kernel) H rfl rfl (fun w3 H2 K hK => ?_); clear H; (try clear w2); (revert w3; intro w2 H); simp only [List.getElem_toArray, List.getElem_cons_succ, List.getElem_cons_zero]; (first | fail); simp only [Act.put, List.setIfInBounds_toArray, List.set_cons_succ, List.set_cons_zero, hq2]) | (guard_target =~ wpTreeC _ _ _ (Tr.q _ _) _ _ _; first | (refine treeC_quiet ⟨_, H, by repeat first | exact .here | apply Suf.there⟩ rfl rfl rfl (fun K hK => ?_); simp only [List.getElem_toArray, List.getElem_cons_succ, List.getElem_cons_zero]; first | (guard_target =~ Oper.quiet _ (Oper.mk _ (.load _ _) _ _ _ _) _ _ _; (refine q_loadN (cs := ?_) (r := ?_) rfl rfl ?_ ?_ ?_ ?_ (hK _ ?_); rotate_left 2; (with_reducible assumption); (repeat first | exact .head _ | apply List.Mem.tail); (focus (intro _; simp [hq2]; done)); (focus (intro _; simp [hq2]; done))); clear hK K; simp only [Act.put, List.setIfInBounds_toArray, List.set_cons_succ, List.set_cons_zero, hq2]) | (go_big_quiet_op; (try refine ⟨_, fun _ _ => rfl, ?_⟩); refine hK _ ?_; clear hK K)) | (refine treeC_call (v := ?_) ⟨_, H, by repeat first | exact .here | apply Suf.there⟩ rfl rfl (fun w3 H K hK => ?_) ?_; rotate_left 1; (focus (simp only [List.getElem_toArray, List.getElem_cons_succ, List.getElem_cons_zero]; first | (go_big_op; first | exact hK _ (Ext.refl _)))); simp only [List.getElem_toArray, List.getElem_cons_succ, List.getElem_cons_zero, Act.put, List.setIfInBounds_toArray, List.set_cons_succ, List.set_cons_zero, hq2]) | (refine treeC_skip ⟨_, H, by repeat first | exact .here | apply Suf.there⟩ rfl rfl ?_; simp only [List.getElem_toArray, List.getElem_cons_succ, List.getElem_cons_zero, Act.put, List.setIfInBounds_toArray, List.set_cons_succ, List.set_cons_zero, hq2])) | (guard_target =~ wpTreeC _ _ _ (Tr.both _ _) _ _ _; refine treeC_both ?_ ?_) | (guard_target =~ wpTreeC _ _ _ (Tr.e _ _) _ _ _; first | (refine treeC_one H rfl rfl (fun w3 H2 K hK => ?_); clear H; (try clear w2); (revert w3; intro w2 H); simp only [List.getElem_toArray, List.getElem_cons_succ, List.getElem_cons_zero]; first | ((first | fail); simp only [Act.put, List.setIfInBounds_toArray, List.set_cons_succ, List.set_cons_zero, hq2]) | (go_big_op; (first | fail))) | (refine treeC_one_skip (fun w3 hx => ⟨_, H.ext hx, by repeat first | exact .here | apply Suf.there⟩) rfl rfl (fun w3 hx => ?_); replace H := H.ext hx; clear hx; (try clear w2); revert w3; intro w2 H; simp only [List.getElem_toArray, List.getElem_cons_succ, List.getElem_cons_zero, Act.put, List.setIfInBounds_toArray, List.set_cons_succ, List.set_cons_zero, hq2])) | (guard_target =~ wpTreeC _ _ _ Tr.nil _ _ _; refine treeC_nil H (fun w3 H2 => ?_); clear H; (try clear w2); revert w3; intro w2 H)))
          go_ret
          exact ⟨ret_b (by rw [← HV.out]; exact (decide_eq_false (same_no HE.out HF.out HD.out)).symm), H.below⟩
      · obtain rfl : gk = 0 := by omega
        go_wp2_with (first | fail)
        go_ret
        exact ⟨ret_b (by rw [← HV.out]; exact (decide_eq_true (by have := HNO.out; rwa [Nat.sub_zero, List.take_of_length_le (by have := HN.out; omega), List.take_of_length_le (by have := HM.out; omega)] at this)).symm), H.below⟩
  · have hnz : ((n : Int) == (m : Int)) = false := by simpa using (by omega : ¬ (n : Int) = m)
    have HX := Lib.hid hnm
    clear hnm
    go_enter Try.func18, Try.ntmps18
    go_wp2_with (first | fail)
    go_ret
    exact ⟨ret_b (by rw [← HV.out]; exact (decide_eq_false (fun q => HX.out (by rw [HN.out, HM.out, q]))).symm), H.below⟩
end Go.Proofs.Ytlhmjhildlnokaa

/-
  The walks of the document's Halves and From.
-/
namespace Go.Proofs.Ytlhmjhildlnokaa
set_option linter.unusedVariables false
set_option linter.unusedSimpArgs false
open Go.RowKit

theorem halves_app (l m : List Eg) : halves (l ++ m) = halves l ++ halves m := by simp [halves]
theorem hR_len (L : List Hf) : (hR L).length = L.length * 2 := by
  induction L with
  | nil => rfl
  | cons a L ih => 
    have : hR (a :: L) = h2 a ++ hR L := rfl
    rw [this, List.length_append, ih, List.length_cons]; simp [h2]; omega
set_option maxRecDepth 100000 in
set_option maxHeartbeats 8000000 in
theorem halves_any (vs : List Vt) (es : List Eg) (A A2 : Option Addr) (n m c c2 : Nat) (F : Nat → Prop) (w : World) (hm : m = es.length) (hs2 : Sl F w A2 (eR es)) (hF : ∀ k, F k → k < w.heap.size) (hl2 : m ≤ 1000000) :
    Calls Try.prog 53 #[.agg #[.slice A n c, .slice A2 m c2]] w (RetH F w (halves es)) := by
  obtain ⟨b9, o9, H1, f9⟩ := (Own.start w).addSl (hs2.ro (by rfl))
  have H := H1.grow_nil 36 2
  clear hs2 H1
  have HM := Lib.hid hm
  have HF := Lib.hid hF
  clear hm hF
  go_enter Try.func53, Try.ntmps53
  have tk0 : True := trivial
  go_wp2_with (guard_target =~ wpList _ _ _ (_ :: _) _ _; ((guard_target =~ wpList _ _ _ (Oper.mk _ (.box _ _) _ _ _ _ :: _) _ _; refine BigFrame.wpList_want rfl (fun K hK => ?_); refine o_box rfl H rfl (fun w3 b2 he H2 => hK _ _ ?_)); clear hK K he; clear H; (try clear w2); revert w3; intro w2 H; simp [Act.eval, Value.cells, setL, List.getD] at H; (clear tk0; rename Nat => b1)); simp only [Act.put, List.setIfInBounds_toArray, List.set_cons_succ, List.set_cons_zero])
  go_loopg [4, 3] m (fun k i v wr => k ≤ m ∧ i = .int .i64 ((m - k : Nat) : Int) ∧ Own w.heap.size w wr [.grow 36 2 v (halves (es.take (m - k))).length (hR (halves (es.take (m - k)))), .cells b1 [.slice A n c, .slice A2 m c2], .rd A2 b9 o9 (eR es)])
  case atStart => exact ⟨Nat.le_refl _, by simp, by rw [Nat.sub_self]; exact H.swap⟩
  case round =>
    clear H
    obtain ⟨hk, rfl, H⟩ := hrel
    by_cases hlt : 0 < gk
    · obtain ⟨j, hj⟩ : ∃ j, m - gk = j := ⟨_, rfl⟩
      have hjl : j < m := by omega
      rw [hj] at H ⊢
      obtain ⟨i, x, y, he⟩ := eg_at es (by have := HM.out; omega : j < es.length)
      obtain rfl := H.rdAddr m2 (eR_pos he)
      have hp := at_e (A := some ⟨b9, o9, none⟩) (b := b9) (off := o9) he
      have hp0 := at_eid (A := some ⟨b9, o9, none⟩) (b := b9) (off := o9) he
      have hst := halves_step he
      (try simp only at hst)
      have hln : (halves (es.take j)).length ≤ 2000000 := by rw [halves_len, List.length_take]; omega
      generalize halves (es.take j) = D at H hst hln
      have HL := Lib.hid (rfl : D.length = D.length)
      generalize hN : D.length = nl at H hln
      generalize hX : hR D = X at H
      have HN := Lib.hid hN
      have HX := Lib.hid hX
      have HA := Lib.hid hst
      have HJ := Lib.hid hj
      clear he hj hst HL hN hX
      have tk0 : True := trivial
      go_wp2_with (first
        | (guard_target =~ Code.wp _ (Code.region 5 _ true) _ _ _; refine region_treeC 5 1 (G := True) (.q 0 (.q 1 (.q 2 (.q 3 (.q 4 (.q 5 (.q 6 (.q 7 (.q 8 (.q 9 (.q 10 (.q 11 (.q 12 (.q 13 (.q 14 (.e 15 (.e 16 (.q 17 .nil)))))))))))))))))) (by kernel_rfl) (by intro c a d v w h; cases d <;> exact h) (by kernel_rfl) H ⟨trivial⟩ (fun _ w3 H2 => ?_); (clear H; (try clear w2); revert w3; intro w2 H); simp only [List.drop_succ_cons, List.drop_zero])
        | (guard_target =~ wpList _ _ _ (_ :: _) _ _; (guard_target =~ wpList _ _ _ (Oper.mk _ (.load _ _) _ _ _ _ :: _) _ _; refine BigFrame.wpList_want rfl (fun K hK => ?_); (refine o_loadC (v := ?_) (row := ?_) rfl rfl H ?_ ?_ ?_ (hK _ _ ?_); rotate_left 2; (repeat first | exact .head _ | apply List.Mem.tail); (exact rfl); (focus (intro _; simp; done))); clear hK K); simp only [Act.put, List.setIfInBounds_toArray, List.set_cons_succ, List.set_cons_zero])
        | (guard_target =~ wpTreeC _ _ _ _ _ _ _; first | (guard_target =~ wpTreeC _ _ _ (Tr.e _ Tr.nil) _ _ _; refine treeC_last (by decide +kernel) H rfl rfl (fun w3 H2 K hK => ?_); clear H; (try clear w2); (revert w3; intro w2 H); simp only [List.getElem_toArray, List.getElem_cons_succ, List.getElem_cons_zero]; (first | fail); simp only [Act.put, List.setIfInBounds_toArray, List.set_cons_succ, List.set_cons_zero]) | (guard_target =~ wpTreeC _ _ _ (Tr.q _ _) _ _ _; first | (refine treeC_quiet ⟨_, H, by repeat first | exact .here | apply Suf.there⟩ rfl rfl rfl (fun K hK => ?_); simp only [List.getElem_toArray, List.getElem_cons_succ, List.getElem_cons_zero]; first | (guard_target =~ Oper.quiet _ (Oper.mk _ (.load _ _) _ _ _ _) _ _ _; (first | (refine q_load (v := ?_) (r := ?_) rfl rfl ?_ ?_ ?_ (hK _ ?_); rotate_left 2; (with_reducible assumption); (repeat first | exact .head _ | apply List.Mem.tail); (focus (intro _; simp; done))) | (refine q_loadC (v := ?_) (row := ?_) rfl rfl ?_ ?_ ?_ (hK _ ?_); rotate_left 2; (repeat first | exact .head _ | apply List.Mem.tail); (exact rfl); (focus (intro _; simp; done)))); clear hK K; simp only [Act.put, List.setIfInBounds_toArray, List.set_cons_succ, List.set_cons_zero]) | (go_big_quiet_op; (try refine ⟨_, fun _ _ => rfl, ?_⟩); refine hK _ ?_; clear hK K)) | (refine treeC_call (v := ?_) ⟨_, H, by repeat first | exact .here | apply Suf.there⟩ rfl rfl (fun w3 H K hK => ?_) ?_; rotate_left 1; (focus (simp only [List.getElem_toArray, List.getElem_cons_succ, List.getElem_cons_zero]; first | (go_big_op; first | exact hK _ (Ext.refl _)))); simp only [List.getElem_toArray, List.getElem_cons_succ, List.getElem_cons_zero, Act.put, List.setIfInBounds_toArray, List.set_cons_succ, List.set_cons_zero]) | (refine treeC_skip ⟨_, H, by repeat first | exact .here | apply Suf.there⟩ rfl rfl ?_; simp only [List.getElem_toArray, List.getElem_cons_succ, List.getElem_cons_zero, Act.put, List.setIfInBounds_toArray, List.set_cons_succ, List.set_cons_zero])) | (guard_target =~ wpTreeC _ _ _ (Tr.both _ _) _ _ _; refine treeC_both ?_ ?_) | (guard_target =~ wpTreeC _ _ _ (Tr.e _ _) _ _ _; first | (refine treeC_one H rfl rfl (fun w3 H2 K hK => ?_); clear H; (try clear w2); (revert w3; intro w2 H); simp only [List.getElem_toArray, List.getElem_cons_succ, List.getElem_cons_zero]; first | ((first | (guard_target =~ Oper.wp _ (Oper.mk _ (.call { callee := .builtin .append, args := _, argTypes := _ }) _ _ _ _) _ _ _ _; refine o_append (row := ?_) (n := ?_) (xs := ?_) (l' := ?_) infoHf rfl rfl rfl H ?_ rfl ?_ ?_ (by kernel_rfl) rfl (by decide) ?_ ?_ ?_ (fun v2 w3 H2 hn => hK _ _ ⟨_, H2, ?_⟩ ?_); rotate_left 4; (repeat first | exact .head _ | apply List.Mem.tail); (focus (simp; done)); (focus (intro _; (exact r1))); exact rfl; exact (by unfold maxLen; omega); exact (by omega); (guard_target =~ Suf _ _; repeat first | exact .here | apply Suf.there); clear hK K hn; clear H; (try clear w2); revert w3; intro w2 H; simp only [List.take_succ_cons, List.take_zero, Nat.one_mul] at H; (obtain ⟨A7, c7, rfl⟩ := H.growForm (v := v2) (by repeat first | exact .head _ | apply List.Mem.tail))) | ((guard_target =~ Oper.wp _ (Oper.mk _ (.buildSlice _ _ _) _ _ _ _) _ _ _ _; refine o_buildSlice (C := ?_) (E := ?_) rfl rfl H ?_ rfl (fun w3 b2 he H2 => hK _ _ ⟨_, H2, ?_⟩ ?_); rotate_left 2; (focus (intro _; simp [go_sem, Instr.buildSlice]; with_reducible exact rfl))); (guard_target =~ Suf _ _; repeat first | exact .here | apply Suf.there); clear hK K he; clear H; (try clear w2); revert w3; intro w2 H; simp [Act.eval, Value.cells, setL, List.getD] at H; (clear tk0; rename Nat => b4))); simp only [Act.put, List.setIfInBounds_toArray, List.set_cons_succ, List.set_cons_zero]) | (go_big_op; (first | fail))) | (refine treeC_one_skip (fun w3 hx => ⟨_, H.ext hx, by repeat first | exact .here | apply Suf.there⟩) rfl rfl (fun w3 hx => ?_); replace H := H.ext hx; clear hx; (try clear w2); revert w3; intro w2 H; simp only [List.getElem_toArray, List.getElem_cons_succ, List.getElem_cons_zero, Act.put, List.setIfInBounds_toArray, List.set_cons_succ, List.set_cons_zero])) | (guard_target =~ wpTreeC _ _ _ Tr.nil _ _ _; refine treeC_nil H (fun w3 H2 => ?_); clear H; (try clear w2); revert w3; intro w2 H)))
      go_roundg (gk - 1)
      case rel =>
        refine ⟨by omega, by have := HJ.out; congr 1; omega, ?_⟩
        rw [show m - (gk - 1) = j + 1 by have := HJ.out; omega, HA.out]
        have H4 := H.tail
        rw [← HX.out] at H4
        rw [show (D ++ [(⟨i, false⟩ : Hf), ⟨i, true⟩]).length = nl + 2 by rw [← HN.out]; simp, show hR (D ++ [(⟨i, false⟩ : Hf), ⟨i, true⟩]) = hR D ++ [.int .i64 i, .bool false, .int .i64 i, .bool true] by simp [hR, h2]]
        exact H4
      case measure => omega
    · obtain rfl : gk = 0 := by omega
      rw [Nat.sub_zero, List.take_of_length_le (by have := HM.out; omega)] at H
      go_wp2_with (guard_target =~ wpList _ _ _ (_ :: _) _ _; (guard_target =~ wpList _ _ _ (Oper.mk _ (.load _ _) _ _ _ _ :: _) _ _; refine BigFrame.wpList_want rfl (fun K hK => ?_); (refine o_loadC (v := ?_) (row := ?_) rfl rfl H ?_ ?_ ?_ (hK _ _ ?_); rotate_left 2; (repeat first | exact .head _ | apply List.Mem.tail); (exact rfl); (focus (intro _; simp; done))); clear hK K); simp only [Act.put, List.setIfInBounds_toArray, List.set_cons_succ, List.set_cons_zero])
      obtain ⟨Ar, cr, rfl, h4, h5, h6⟩ := H.giveGrow m0 HF.out
      go_ret
      exact ⟨Ar, cr, rfl, H.below, h6, h4, h5⟩
set_option maxRecDepth 100000 in
set_option maxHeartbeats 8000000 in
theorem from_any (es : List Eg) (A A2 : Option Addr) (n m c c2 : Nat) (F : Nat → Prop) (e0 : Int) (b0' : Bool) (w : World) (hm : m = es.length) (hs2 : Sl F w A2 (eR es)) (hl2 : m ≤ 1000000) {j : Nat} {x y : Int} (hj : es[j]? = some ⟨e0, x, y⟩) (hf : es.findIdx? (fun v => v.id == e0) = some j) :
    Calls Try.prog 32 #[.agg #[.slice A n c, .slice A2 m c2], .agg #[.int .i64 e0, .bool b0']] w fun e w' => e = .returned (.int .i64 (if b0' then y else x)) ∧ Below w.heap.size w w' := by
  obtain ⟨b9, o9, H, f9⟩ := (Own.start w).addSl (hs2.ro (by rfl))
  clear hs2
  have h1 := fun F w h1 => refEdge_any es A2 A m n c2 c F e0 w hm h1 hl2
  rw [hf] at h1
  have hjl : j < m := by have := (List.getElem?_eq_some_iff.1 hj).1; omega
  obtain rfl := H.rdAddr m0 (eR_pos hj)
  have hp := at_e (A := some ⟨b9, o9, none⟩) (b := b9) (off := o9) hj
  simp only [ixZ] at h1
  clear hj hf hm
  cases b0'
  · go_enter Try.func32, Try.ntmps32
    have tk0 : True := trivial
    have tk1 : True := trivial
    have tk2 : True := trivial
    go_wp2_with (first
      | (guard_target =~ Code.wp _ (Code.region 1 _ true) _ _ _; refine region_treeC0 1 (G := True) (.q 0 (.q 1 (.q 2 (.q 3 (.q 4 (.q 5 (.q 6 (.q 7 (.e 8 (.e 9 .nil)))))))))) (by kernel_rfl) (by intro c a d v w h; cases d <;> exact h) (by kernel_rfl) H ⟨trivial⟩ (fun _ w3 H2 => ?_); (clear H; (try clear w2); revert w3; intro w2 H))
      | (guard_target =~ wpList _ _ _ (_ :: _) _ _; (first | (guard_target =~ wpList _ _ _ (Oper.mk _ (.load _ _) _ _ _ _ :: _) _ _; refine BigFrame.wpList_want rfl (fun K hK => ?_); (refine o_loadC (v := ?_) (row := ?_) rfl rfl H ?_ ?_ ?_ (hK _ _ ?_); rotate_left 2; (repeat first | exact .head _ | apply List.Mem.tail); (exact rfl); (focus (intro _; simp; done))); clear hK K) | ((guard_target =~ wpList _ _ _ (Oper.mk _ (.box _ _) _ _ _ _ :: _) _ _; refine BigFrame.wpList_want rfl (fun K hK => ?_); refine o_box rfl H rfl (fun w3 b2 he H2 => hK _ _ ?_)); clear hK K he; clear H; (try clear w2); revert w3; intro w2 H; simp [Act.eval, Value.cells, setL, List.getD] at H; (first | (clear tk0; rename Nat => b1) | (clear tk1; rename Nat => b2)))); simp only [Act.put, List.setIfInBounds_toArray, List.set_cons_succ, List.set_cons_zero])
      | (guard_target =~ wpTreeC _ _ _ _ _ _ _; first | (guard_target =~ wpTreeC _ _ _ (Tr.e _ Tr.nil) _ _ _; refine treeC_last (by decide +kernel) H rfl rfl (fun w3 H2 K hK => ?_); clear H; (try clear w2); (revert w3; intro w2 H); simp only [List.getElem_toArray, List.getElem_cons_succ, List.getElem_cons_zero]; (guard_target =~ Oper.wp _ (Oper.mk _ (.store _ _ _) _ _ _ _) _ _ _ _; refine o_store (l' := ?_) (row := ?_) rfl rfl H rfl ?_ ?_ ?_ ?_ (fun w3 H2 => hK _ _ ?_); rotate_left 2; (exact r0); (focus (intro _; simp [Act.eval, Value.cells]; done)); (focus (simp [Act.eval, Value.cells]; done)); (exact rfl); clear hK K; clear H; (try clear w2); revert w3; intro w2 H; simp [Act.eval, Value.cells, setL, List.getD] at H); simp only [Act.put, List.setIfInBounds_toArray, List.set_cons_succ, List.set_cons_zero]) | (guard_target =~ wpTreeC _ _ _ (Tr.q _ _) _ _ _; first | (refine treeC_quiet ⟨_, H, by repeat first | exact .here | apply Suf.there⟩ rfl rfl rfl (fun K hK => ?_); simp only [List.getElem_toArray, List.getElem_cons_succ, List.getElem_cons_zero]; first | (guard_target =~ Oper.quiet _ (Oper.mk _ (.load _ _) _ _ _ _) _ _ _; (first | (refine q_loadC (v := ?_) (row := ?_) rfl rfl ?_ ?_ ?_ (hK _ ?_); rotate_left 2; (repeat first | exact .head _ | apply List.Mem.tail); (exact rfl); (focus (intro _; simp; done))) | (refine q_loadN (cs := ?_) (r := ?_) rfl rfl ?_ ?_ ?_ ?_ (hK _ ?_); rotate_left 2; (with_reducible assumption); (repeat first | exact .head _ | apply List.Mem.tail); (focus (intro _; simp; done)); (focus (intro _; simp; done))) | (refine q_loadNC (row := ?_) rfl rfl ?_ ?_ ?_ (hK _ ?_); rotate_left 1; (repeat first | exact .head _ | apply List.Mem.tail); (focus (intro _; simp; done)); (focus (intro _; simp; done)))); clear hK K; simp only [Act.put, List.setIfInBounds_toArray, List.set_cons_succ, List.set_cons_zero]) | (go_big_quiet_op; (try refine ⟨_, fun _ _ => rfl, ?_⟩); refine hK _ ?_; clear hK K)) | (refine treeC_call (v := ?_) ⟨_, H, by repeat first | exact .here | apply Suf.there⟩ rfl rfl (fun w3 H K hK => ?_) ?_; rotate_left 1; (focus (simp only [List.getElem_toArray, List.getElem_cons_succ, List.getElem_cons_zero]; first | (go_big_op; first | exact hK _ (Ext.refl _) | (go_at_call 30; (with_reducible refine (h1 _ _ (by exact H.giveRd m2 f9)).mono ?_); rintro e w3 ⟨rfl, hb⟩; dsimp only; first | exact hK _ hb | exact hK _ (Ext.refl _))))); simp only [List.getElem_toArray, List.getElem_cons_succ, List.getElem_cons_zero, Act.put, List.setIfInBounds_toArray, List.set_cons_succ, List.set_cons_zero]) | (refine treeC_skip ⟨_, H, by repeat first | exact .here | apply Suf.there⟩ rfl rfl ?_; simp only [List.getElem_toArray, List.getElem_cons_succ, List.getElem_cons_zero, Act.put, List.setIfInBounds_toArray, List.set_cons_succ, List.set_cons_zero])) | (guard_target =~ wpTreeC _ _ _ (Tr.both _ _) _ _ _; refine treeC_both ?_ ?_) | (guard_target =~ wpTreeC _ _ _ (Tr.e _ _) _ _ _; first | (refine treeC_one H rfl rfl (fun w3 H2 K hK => ?_); clear H; (try clear w2); (revert w3; intro w2 H); simp only [List.getElem_toArray, List.getElem_cons_succ, List.getElem_cons_zero]; first | (((guard_target =~ Oper.wp _ (Oper.mk _ (.alloc _) _ _ _ _) _ _ _ _; refine o_alloc (z := ?_) rfl ?_ H rfl (fun w3 b2 he H2 => hK _ _ ⟨_, H2, ?_⟩ ?_); rotate_left 1; (focus (intro _; simp; with_reducible exact rfl))); (guard_target =~ Suf _ _; repeat first | exact .here | apply Suf.there); clear hK K he; clear H; (try clear w2); revert w3; intro w2 H; simp [Act.eval, Value.cells, setL, List.getD] at H; (clear tk2; rename Nat => b3)); simp only [Act.put, List.setIfInBounds_toArray, List.set_cons_succ, List.set_cons_zero]) | (go_big_op; (first | fail))) | (refine treeC_one_skip (fun w3 hx => ⟨_, H.ext hx, by repeat first | exact .here | apply Suf.there⟩) rfl rfl (fun w3 hx => ?_); replace H := H.ext hx; clear hx; (try clear w2); revert w3; intro w2 H; simp only [List.getElem_toArray, List.getElem_cons_succ, List.getElem_cons_zero, Act.put, List.setIfInBounds_toArray, List.set_cons_succ, List.set_cons_zero])) | (guard_target =~ wpTreeC _ _ _ Tr.nil _ _ _; refine treeC_nil H (fun w3 H2 => ?_); clear H; (try clear w2); revert w3; intro w2 H)))
    exact bodyPost_ret (v := .int .i64 x) (by simp [results, Try.results32]) rfl ⟨rfl, H.below⟩
  · go_enter Try.func32, Try.ntmps32
    have tk0 : True := trivial
    have tk1 : True := trivial
    have tk2 : True := trivial
    go_wp2_with (first
      | (guard_target =~ Code.wp _ (Code.region 1 _ true) _ _ _; refine region_treeC0 1 (G := True) (.q 0 (.q 1 (.q 2 (.q 3 (.q 4 (.q 5 (.q 6 (.q 7 (.e 8 (.e 9 .nil)))))))))) (by kernel_rfl) (by intro c a d v w h; cases d <;> exact h) (by kernel_rfl) H ⟨trivial⟩ (fun _ w3 H2 => ?_); (clear H; (try clear w2); revert w3; intro w2 H))
      | (guard_target =~ wpList _ _ _ (_ :: _) _ _; (first | (guard_target =~ wpList _ _ _ (Oper.mk _ (.load _ _) _ _ _ _ :: _) _ _; refine BigFrame.wpList_want rfl (fun K hK => ?_); (refine o_loadC (v := ?_) (row := ?_) rfl rfl H ?_ ?_ ?_ (hK _ _ ?_); rotate_left 2; (repeat first | exact .head _ | apply List.Mem.tail); (exact rfl); (focus (intro _; simp; done))); clear hK K) | ((guard_target =~ wpList _ _ _ (Oper.mk _ (.box _ _) _ _ _ _ :: _) _ _; refine BigFrame.wpList_want rfl (fun K hK => ?_); refine o_box rfl H rfl (fun w3 b2 he H2 => hK _ _ ?_)); clear hK K he; clear H; (try clear w2); revert w3; intro w2 H; simp [Act.eval, Value.cells, setL, List.getD] at H; (first | (clear tk0; rename Nat => b1) | (clear tk1; rename Nat => b2)))); simp only [Act.put, List.setIfInBounds_toArray, List.set_cons_succ, List.set_cons_zero])
      | (guard_target =~ wpTreeC _ _ _ _ _ _ _; first | (guard_target =~ wpTreeC _ _ _ (Tr.e _ Tr.nil) _ _ _; refine treeC_last (by decide +kernel) H rfl rfl (fun w3 H2 K hK => ?_); clear H; (try clear w2); (revert w3; intro w2 H); simp only [List.getElem_toArray, List.getElem_cons_succ, List.getElem_cons_zero]; (guard_target =~ Oper.wp _ (Oper.mk _ (.store _ _ _) _ _ _ _) _ _ _ _; refine o_store (l' := ?_) (row := ?_) rfl rfl H rfl ?_ ?_ ?_ ?_ (fun w3 H2 => hK _ _ ?_); rotate_left 2; (exact r0); (focus (intro _; simp [Act.eval, Value.cells]; done)); (focus (simp [Act.eval, Value.cells]; done)); (exact rfl); clear hK K; clear H; (try clear w2); revert w3; intro w2 H; simp [Act.eval, Value.cells, setL, List.getD] at H); simp only [Act.put, List.setIfInBounds_toArray, List.set_cons_succ, List.set_cons_zero]) | (guard_target =~ wpTreeC _ _ _ (Tr.q _ _) _ _ _; first | (refine treeC_quiet ⟨_, H, by repeat first | exact .here | apply Suf.there⟩ rfl rfl rfl (fun K hK => ?_); simp only [List.getElem_toArray, List.getElem_cons_succ, List.getElem_cons_zero]; first | (guard_target =~ Oper.quiet _ (Oper.mk _ (.load _ _) _ _ _ _) _ _ _; (first | (refine q_loadC (v := ?_) (row := ?_) rfl rfl ?_ ?_ ?_ (hK _ ?_); rotate_left 2; (repeat first | exact .head _ | apply List.Mem.tail); (exact rfl); (focus (intro _; simp; done))) | (refine q_loadN (cs := ?_) (r := ?_) rfl rfl ?_ ?_ ?_ ?_ (hK _ ?_); rotate_left 2; (with_reducible assumption); (repeat first | exact .head _ | apply List.Mem.tail); (focus (intro _; simp; done)); (focus (intro _; simp; done))) | (refine q_loadNC (row := ?_) rfl rfl ?_ ?_ ?_ (hK _ ?_); rotate_left 1; (repeat first | exact .head _ | apply List.Mem.tail); (focus (intro _; simp; done)); (focus (intro _; simp; done)))); clear hK K; simp only [Act.put, List.setIfInBounds_toArray, List.set_cons_succ, List.set_cons_zero]) | (go_big_quiet_op; (try refine ⟨_, fun _ _ => rfl, ?_⟩); refine hK _ ?_; clear hK K)) | (refine treeC_call (v := ?_) ⟨_, H, by repeat first | exact .here | apply Suf.there⟩ rfl rfl (fun w3 H K hK => ?_) ?_; rotate_left 1; (focus (simp only [List.getElem_toArray, List.getElem_cons_succ, List.getElem_cons_zero]; first | (go_big_op; first | exact hK _ (Ext.refl _) | (go_at_call 30; (with_reducible refine (h1 _ _ (by exact H.giveRd m2 f9)).mono ?_); rintro e w3 ⟨rfl, hb⟩; dsimp only; first | exact hK _ hb | exact hK _ (Ext.refl _))))); simp only [List.getElem_toArray, List.getElem_cons_succ, List.getElem_cons_zero, Act.put, List.setIfInBounds_toArray, List.set_cons_succ, List.set_cons_zero]) | (refine treeC_skip ⟨_, H, by repeat first | exact .here | apply Suf.there⟩ rfl rfl ?_; simp only [List.getElem_toArray, List.getElem_cons_succ, List.getElem_cons_zero, Act.put, List.setIfInBounds_toArray, List.set_cons_succ, List.set_cons_zero])) | (guard_target =~ wpTreeC _ _ _ (Tr.both _ _) _ _ _; refine treeC_both ?_ ?_) | (guard_target =~ wpTreeC _ _ _ (Tr.e _ _) _ _ _; first | (refine treeC_one H rfl rfl (fun w3 H2 K hK => ?_); clear H; (try clear w2); (revert w3; intro w2 H); simp only [List.getElem_toArray, List.getElem_cons_succ, List.getElem_cons_zero]; first | (((guard_target =~ Oper.wp _ (Oper.mk _ (.alloc _) _ _ _ _) _ _ _ _; refine o_alloc (z := ?_) rfl ?_ H rfl (fun w3 b2 he H2 => hK _ _ ⟨_, H2, ?_⟩ ?_); rotate_left 1; (focus (intro _; simp; with_reducible exact rfl))); (guard_target =~ Suf _ _; repeat first | exact .here | apply Suf.there); clear hK K he; clear H; (try clear w2); revert w3; intro w2 H; simp [Act.eval, Value.cells, setL, List.getD] at H; (clear tk2; rename Nat => b3)); simp only [Act.put, List.setIfInBounds_toArray, List.set_cons_succ, List.set_cons_zero]) | (go_big_op; (first | fail))) | (refine treeC_one_skip (fun w3 hx => ⟨_, H.ext hx, by repeat first | exact .here | apply Suf.there⟩) rfl rfl (fun w3 hx => ?_); replace H := H.ext hx; clear hx; (try clear w2); revert w3; intro w2 H; simp only [List.getElem_toArray, List.getElem_cons_succ, List.getElem_cons_zero, Act.put, List.setIfInBounds_toArray, List.set_cons_succ, List.set_cons_zero])) | (guard_target =~ wpTreeC _ _ _ Tr.nil _ _ _; refine treeC_nil H (fun w3 H2 => ?_); clear H; (try clear w2); revert w3; intro w2 H)))
    exact bodyPost_ret (v := .int .i64 y) (by simp [results, Try.results32]) rfl ⟨rfl, H.below⟩
end Go.Proofs.Ytlhmjhildlnokaa

/-
  The walk of the document's Out.
-/
namespace Go.Proofs.Ytlhmjhildlnokaa
set_option linter.unusedVariables false
set_option linter.unusedSimpArgs false
open Go.RowKit

def insS (lt : Hf → Hf → Bool) (x : Hf) (st : List Hf × Bool) (y : Hf) : List Hf × Bool := if (!st.2 && lt x y) = true then (st.1 ++ [x, y], true) else (st.1 ++ [y], st.2)
def insE (x : Hf) (st : List Hf × Bool) : List Hf := if st.2 then st.1 else st.1 ++ [x]
theorem insS_done (lt : Hf → Hf → Bool) (x : Hf) : ∀ (ys l : List Hf), ys.foldl (insS lt x) (l, true) = (l ++ ys, true)
  | [], l => by simp
  | y :: ys, l => by
    have : insS lt x (l, true) y = (l ++ [y], true) := by simp [insS]
    rw [List.foldl_cons, this, insS_done lt x ys]; simp
theorem insS_eq (lt : Hf → Hf → Bool) (x : Hf) : ∀ (ys l : List Hf), insE x (ys.foldl (insS lt x) (l, false)) = l ++ insH lt x ys
  | [], l => by simp [insE, insH]
  | y :: ys, l => by
    rw [List.foldl_cons]
    unfold insH
    by_cases h : lt x y = true
    · have : insS lt x (l, false) y = (l ++ [x, y], true) := by simp [insS, h]
      rw [this, insS_done, if_pos h]
      simp [insE]
    · have : insS lt x (l, false) y = (l ++ [y], false) := by simp [insS, h]
      rw [this, insS_eq lt x ys, if_neg h]
      simp
theorem insS_len (lt : Hf → Hf → Bool) (x : Hf) (st : List Hf × Bool) (y : Hf) : (insS lt x st y).1.length ≤ st.1.length + 2 := by
  unfold insS; split <;> simp
theorem insS_lens (lt : Hf → Hf → Bool) (x : Hf) : ∀ (ys : List Hf) (st : List Hf × Bool), (ys.foldl (insS lt x) st).1.length ≤ st.1.length + 2 * ys.length
  | [], st => by simp
  | y :: ys, st => by
    rw [List.foldl_cons]
    have h1 := insS_lens lt x ys (insS lt x st y)
    have h2 := insS_len lt x st y
    rw [List.length_cons]; omega
/-- What leaves a vertex, so far. -/
def outF (vs : List Vt) (es : List Eg) (v : Int) (hs : List Hf) : List Hf := hs.foldl (fun out h => if fromZ es h = v then insH (ltAt vs es v) h out else out) []
theorem outF_all (vs : List Vt) (es : List Eg) (v : Int) : outF vs es v (halves es) = outZ vs es v := rfl
theorem outF_step (vs : List Vt) (es : List Eg) (v : Int) {hs : List Hf} {h : Hf} : outF vs es v (hs ++ [h]) = if fromZ es h = v then insH (ltAt vs es v) h (outF vs es v hs) else outF vs es v hs := by unfold outF; rw [List.foldl_append]; rfl
theorem insH_mem {lt : Hf → Hf → Bool} {x y : Hf} {l : List Hf} : y ∈ insH lt x l ↔ y = x ∨ y ∈ l := by rw [(insH_perm x l).mem_iff, List.mem_cons]
theorem outF_at (vs : List Vt) (es : List Eg) (v : Int) (hs : List Hf) (hh : ∀ h ∈ hs, h ∈ halves es) : (∀ y ∈ outF vs es v hs, y ∈ halves es ∧ fromZ es y = v) ∧ (outF vs es v hs).length ≤ hs.length := by
  obtain ⟨n, hn⟩ : ∃ n, hs.length = n := ⟨_, rfl⟩
  induction n generalizing hs with
  | zero => obtain rfl := List.eq_nil_of_length_eq_zero hn; simp [outF]
  | succ n ih =>
    rcases List.eq_nil_or_concat hs with rfl | ⟨hs, h, rfl⟩
    · simp at hn
    rw [List.concat_eq_append] at hh hn ⊢
    have R := ih hs (fun x hx => hh x (by simp [hx])) (by simpa using hn)
    rw [outF_step]
    split
    · rename_i hf
      refine ⟨fun y hy => ?_, by rw [(insH_perm h _).length_eq]; simp; exact R.2⟩
      rcases insH_mem.1 hy with rfl | hy
      · exact ⟨hh _ (by simp), hf⟩
      · exact R.1 y hy
    · exact ⟨R.1, by rw [List.length_append]; have := R.2; omega⟩
theorem eg_idx {vs : List Vt} {es : List Eg} (H : RightP vs es) {j : Nat} {e : Eg} (hj : es[j]? = some e) : es.findIdx? (fun v => v.id == e.id) = some j := by
  have hlt := (List.getElem?_eq_some_iff.1 hj)
  rw [List.findIdx?_eq_some_iff_getElem]
  refine ⟨hlt.1, by simp [hlt.2], fun k hk => ?_⟩
  have hkl : k < es.length := Nat.lt_trans hk hlt.1
  have h1 : es[k].id < e.id := (pairwise_get _).1 H.ids k j _ _ hk (List.getElem?_eq_getElem hkl) hj
  simp; omega
set_option maxRecDepth 100000 in
theorem fromR_any {vs : List Vt} {es : List Eg} (H : RightP vs es) (A A2 : Option Addr) (n m c c2 : Nat) (F : Nat → Prop) (e0 : Int) (b0' : Bool) (z : Int) (w : World) (hm : m = es.length) (hs2 : Sl F w A2 (eR es)) (hh : (⟨e0, b0'⟩ : Hf) ∈ halves es) (hz : fromZ es ⟨e0, b0'⟩ = z) :
    Calls Try.prog 32 #[.agg #[.slice A n c, .slice A2 m c2], .agg #[.int .i64 e0, .bool b0']] w fun e w' => e = .returned (.int .i64 z) ∧ Below w.heap.size w w' := by
  obtain ⟨e, he, h1⟩ := mem_halves.1 hh
  obtain ⟨j, hj⟩ := List.getElem?_of_mem he
  obtain ⟨i, x, y⟩ := e
  obtain rfl : e0 = i := h1
  have hf := eg_idx H hj
  have := from_any es A A2 n m c c2 F e0 b0' w hm hs2 (by have := H.few.2; omega) hj hf
  refine this.mono ?_
  rintro r w' ⟨rfl, hb⟩
  refine ⟨?_, hb⟩
  have hs := from_step H hj
  rw [← hz]
  cases b0'
  · rw [hs.1]; rfl
  · rw [hs.2]; rfl
set_option maxRecDepth 100000 in
theorem atR_any {vs : List Vt} {es : List Eg} (H : RightP vs es) (A A2 : Option Addr) (n m c c2 : Nat) (F : Nat → Prop) (id x y : Int) (w : World) (hn : n = vs.length) (hs : Sl F w A (vR vs)) (hi : (vs.find? fun v => v.id == id).isSome = true) (hr : rpt vs id = ⟨x, y⟩) :
    Calls Try.prog 33 #[.agg #[.slice A n c, .slice A2 m c2], .int .i64 id] w fun e w' => e = .returned (pV x y) ∧ Below w.heap.size w w' := by
  unfold rpt at hr
  cases hf : (vs.find? fun v => v.id == id) with
  | none => rw [hf] at hi; cases hi
  | some v =>
    obtain ⟨i, ⟨x', y'⟩⟩ := v
    rw [hf] at hr
    have hr : (⟨x', y'⟩ : Pt) = ⟨x, y⟩ := hr
    injection hr with e1 e2
    subst e1 e2
    exact refAt_any vs A A2 n m c c2 F id i x' y' w hn hs (by have := H.few.1; omega) hf
/-- Three points of directions out of a vertex. -/
theorem aroundO_any {vs : List Vt} {es : List Eg} (H : RightP vs es) {v : Int} {g h : Hf} (hg : g ∈ halves es ∧ fromZ es g = v) (hh : h ∈ halves es ∧ fromZ es h = v) {ox oy ax ay bx b_y : Int} (h1 : rpt vs v = ⟨ox, oy⟩) (h2 : rpt vs (toZ es g) = ⟨ax, ay⟩) (h3 : rpt vs (toZ es h) = ⟨bx, b_y⟩) (w : World) :
    Calls Try.prog 54 #[pV ox oy, pV ax ay, pV bx b_y] w fun e w' => e = .returned (.int .i64 (aroundZ (rpt vs v) (farP vs es g) (farP vs es h))) ∧ Below w.heap.size w w' := by
  have eg := half_ends H hg.1
  have eh := half_ends H hh.1
  have e1 := around_at H hg hh
  have i1 : inB (rpt vs v) = true := by rw [← hg.2]; exact rpt_in H.verts eg.1
  have i2 := rpt_in H.verts eg.2.1
  have i3 := rpt_in H.verts eh.2.1
  rw [e1.1, around_wedge e1.2.1 e1.2.2]
  unfold farP
  rw [h1] at i1
  rw [h2] at i2
  rw [h3] at i3
  rw [h1, h2, h3]
  exact refAround_any ox oy ax ay bx b_y (inB_P i1) (inB_P i2) (inB_P i3) w
def OutRel (lt : Hf → Hf → Bool) (x : Hf) (L : List Hf) (n : Nat) (B : Nat) (w0 : World) (x1 : Res) (l : List Res) (k : Nat) (u dn i : Value) (wr : World) : Prop :=
  ∃ l2 d, (L.take (n - k)).foldl (insS lt x) ([], false) = (l2, d) ∧ k ≤ n ∧ dn = .bool d ∧ i = .int .i64 ((n - k : Nat) : Int) ∧ Own B w0 wr (.grow 36 2 u l2.length (hR l2) :: x1 :: l)
theorem foldl_take {α β : Type} (f : β → α → β) (b : β) {L : List α} {j : Nat} {a : α} (h : L[j]? = some a) : (L.take (j + 1)).foldl f b = f ((L.take j).foldl f b) a := by
  rw [List.take_add_one, h, List.foldl_append]; rfl
set_option maxRecDepth 100000 in
set_option maxHeartbeats 16000000 in
theorem rout_any (vs : List Vt) (es : List Eg) (A A2 : Option Addr) (n m c c2 : Nat) (F : Nat → Prop) (id : Int) (w : World) (hR0 : RightP vs es) (hn : n = vs.length) (hm : m = es.length) (hs : Sl F w A (vR vs)) (hs2 : Sl F w A2 (eR es)) (hF : ∀ k, F k → k < w.heap.size) :
    Calls Try.prog 24 #[.agg #[.slice A n c, .slice A2 m c2], .int .i64 id] w (RetH F w (outZ vs es id)) := by
  obtain ⟨b0, o0, H1, f0⟩ := (Own.start w).addSl (hs.ro (by rfl))
  obtain ⟨b9, o9, H, f9⟩ := H1.addSl (hs2.ro (by rfl))
  clear hs hs2 H1
  have h1 := fun F w h1 hF => halves_any vs es A A2 n m c c2 F w hm h1 hF (by have := hR0.few.2; omega)
  have hF1 := fun F w e0 b0' z h1 h2 h3 => fromR_any hR0 A A2 n m c c2 F e0 b0' z w hm h1 h2 h3
  have hA1 := fun F w id x y h1 h2 h3 => atR_any hR0 A A2 n m c c2 F id x y w hn h1 h2 h3
  have HR := Lib.hid hR0
  have hS := few_halves hR0
  have HF := Lib.hid hF
  clear hn hm hR0 hF
  go_enter Try.func24, Try.ntmps24
  have tk0 : True := trivial
  go_wp2_with (first
    | (go_at_call 53; (with_reducible refine (h1 _ _ (by exact H.giveRd m1 f9) (H.fw_lt rfl HF.out)).mono ?_); rintro e w3 ⟨A3, c3, rfl, hb, s3, q3, q4⟩; replace H := H.ext hb; clear hb; obtain ⟨b3, o3, H4, f3⟩ := H.addSl s3; clear H s3; have H := H4; clear H4; dsimp only; (skip))
    | (guard_target =~ wpList _ _ _ (_ :: _) _ _; (first | (guard_target =~ wpList _ _ _ (Oper.mk _ (.load _ _) _ _ _ _ :: _) _ _; refine BigFrame.wpList_want rfl (fun K hK => ?_); (refine o_loadNC (row := ?_) rfl rfl H ?_ ?_ ?_ (hK _ _ ?_); rotate_left 1; (repeat first | exact .head _ | apply List.Mem.tail); (focus (intro _; simp; done)); (focus (intro _; simp; done))); clear hK K) | ((guard_target =~ wpList _ _ _ (Oper.mk _ (.box _ _) _ _ _ _ :: _) _ _; refine BigFrame.wpList_want rfl (fun K hK => ?_); refine o_box rfl H rfl (fun w3 b2 he H2 => hK _ _ ?_)); clear hK K he; clear H; (try clear w2); revert w3; intro w2 H; simp [Act.eval, Value.cells, setL, List.getD] at H; (clear tk0; rename Nat => b1))); simp only [Act.put, List.setIfInBounds_toArray, List.set_cons_succ, List.set_cons_zero]))
  have hsz : (halves es).length ≤ 2048 := hS
  generalize hN : (halves es).length = N at hsz ⊢
  have HN := Lib.hid hN
  clear hN hS
  have H := (H.grow_nil 36 2)
  go_loopg [7, 5] N (fun k i u wr => ∃ L, L = outF vs es id ((halves es).take (N - k)) ∧ k ≤ N ∧ i = .int .i64 ((N - k : Nat) : Int) ∧ Own w.heap.size w wr (.grow 36 2 u L.length (hR L) :: .rd A3 b3 o3 (hR (halves es)) :: .cells b1 [.slice A n c, .slice A2 m c2] :: .rd A2 b9 o9 (eR es) :: .rd A b0 o0 (vR vs) :: []))
  case atStart => exact ⟨[], by rw [Nat.sub_self]; rfl, Nat.le_refl _, by simp, H⟩
  case round =>
    clear H
    obtain ⟨L, hL, hk, rfl, H⟩ := hrel
    by_cases hlt : 0 < gk
    · obtain ⟨j, hj⟩ : ∃ j, N - gk = j := ⟨_, rfl⟩
      have hjl : j < N := by omega
      rw [hj] at hL ⊢
      obtain ⟨e, b, he⟩ := hf_get (by have := HN.out; omega : j < (halves es).length)
      obtain rfl := H.rdAddr m1 (hR_pos (by have := HN.out; omega : j < (halves es).length))
      have hp := h_at (A := some ⟨b3, o3, none⟩) (bb := b3) (off := o3) he
      have hmem : (⟨e, b⟩ : Hf) ∈ halves es := List.mem_of_getElem? he
      have hLs := outF_at vs es id ((halves es).take j) fun h hh => List.mem_of_mem_take hh
      rw [← hL] at hLs
      have hLl : L.length ≤ 2048 := by have := hLs.2; rw [List.length_take] at this; omega
      have hst : outF vs es id ((halves es).take (j + 1)) = if fromZ es ⟨e, b⟩ = id then insH (ltAt vs es id) ⟨e, b⟩ L else L := by rw [List.take_add_one, he, hL]; exact outF_step vs es id
      obtain ⟨z, hz⟩ : ∃ z, fromZ es ⟨e, b⟩ = z := ⟨_, rfl⟩
      have hf1 := fun F w h1 => hF1 F w e b z h1 hmem hz
      rw [hz] at hst
      have HST := Lib.hid hst
      have HJ := Lib.hid hj
      have HMEM := Lib.hid hmem
      have HZ := Lib.hid hz
      have HLS := Lib.hid hLs
      clear he hL hst hmem hz hj hLs
      by_cases hzi : z = id
      · subst hzi
        rw [if_pos rfl] at HST
        have hxz : (z != z) = false := by simp
        go_wp2_with (first
          | (guard_target =~ Code.wp _ (Code.region 6 _ true) _ _ _; refine region_treeC0 6 (G := True) (.q 0 (.q 1 (.q 2 (.q 3 (.q 4 (.q 5 (.q 6 (.q 7 .nil)))))))) (by kernel_rfl) (by intro c a d v w h; cases d <;> exact h) (by kernel_rfl) H ⟨trivial⟩ (fun _ w3 H2 => ?_); (clear H; (try clear w2); revert w3; intro w2 H))
          | (guard_target =~ wpTreeC _ _ _ _ _ _ _; first | (guard_target =~ wpTreeC _ _ _ (Tr.e _ Tr.nil) _ _ _; refine treeC_last (by decide +kernel) H rfl rfl (fun w3 H2 K hK => ?_); clear H; (try clear w2); (revert w3; intro w2 H); simp only [List.getElem_toArray, List.getElem_cons_succ, List.getElem_cons_zero]; (first | fail); simp only [Act.put, List.setIfInBounds_toArray, List.set_cons_succ, List.set_cons_zero]) | (guard_target =~ wpTreeC _ _ _ (Tr.q _ _) _ _ _; first | (refine treeC_quiet ⟨_, H, by repeat first | exact .here | apply Suf.there⟩ rfl rfl rfl (fun K hK => ?_); simp only [List.getElem_toArray, List.getElem_cons_succ, List.getElem_cons_zero]; first | (guard_target =~ Oper.quiet _ (Oper.mk _ (.load _ _) _ _ _ _) _ _ _; (first | (refine q_loadN (cs := ?_) (r := ?_) rfl rfl ?_ ?_ ?_ ?_ (hK _ ?_); rotate_left 2; (with_reducible assumption); (repeat first | exact .head _ | apply List.Mem.tail); (focus (intro _; simp; done)); (focus (intro _; simp; done))) | (refine q_loadNC (row := ?_) rfl rfl ?_ ?_ ?_ (hK _ ?_); rotate_left 1; (repeat first | exact .head _ | apply List.Mem.tail); (focus (intro _; simp; done)); (focus (intro _; simp; done)))); clear hK K; simp only [Act.put, List.setIfInBounds_toArray, List.set_cons_succ, List.set_cons_zero]) | (go_big_quiet_op; (try refine ⟨_, fun _ _ => rfl, ?_⟩); refine hK _ ?_; clear hK K)) | (refine treeC_call (v := ?_) ⟨_, H, by repeat first | exact .here | apply Suf.there⟩ rfl rfl (fun w3 H K hK => ?_) ?_; rotate_left 1; (focus (simp only [List.getElem_toArray, List.getElem_cons_succ, List.getElem_cons_zero]; first | (go_big_op; first | exact hK _ (Ext.refl _) | (go_at_call 32; (with_reducible refine (hf1 _ _ (by exact H.giveRd m3 f9)).mono ?_); rintro e w3 ⟨rfl, hb⟩; dsimp only; first | exact hK _ hb | exact hK _ (Ext.refl _))))); simp only [List.getElem_toArray, List.getElem_cons_succ, List.getElem_cons_zero, Act.put, List.setIfInBounds_toArray, List.set_cons_succ, List.set_cons_zero]) | (refine treeC_skip ⟨_, H, by repeat first | exact .here | apply Suf.there⟩ rfl rfl ?_; simp only [List.getElem_toArray, List.getElem_cons_succ, List.getElem_cons_zero, Act.put, List.setIfInBounds_toArray, List.set_cons_succ, List.set_cons_zero])) | (guard_target =~ wpTreeC _ _ _ (Tr.both _ _) _ _ _; refine treeC_both ?_ ?_) | (guard_target =~ wpTreeC _ _ _ (Tr.e _ _) _ _ _; first | (refine treeC_one H rfl rfl (fun w3 H2 K hK => ?_); clear H; (try clear w2); (revert w3; intro w2 H); simp only [List.getElem_toArray, List.getElem_cons_succ, List.getElem_cons_zero]; first | ((first | fail); simp only [Act.put, List.setIfInBounds_toArray, List.set_cons_succ, List.set_cons_zero]) | (go_big_op; (first | fail))) | (refine treeC_one_skip (fun w3 hx => ⟨_, H.ext hx, by repeat first | exact .here | apply Suf.there⟩) rfl rfl (fun w3 hx => ?_); replace H := H.ext hx; clear hx; (try clear w2); revert w3; intro w2 H; simp only [List.getElem_toArray, List.getElem_cons_succ, List.getElem_cons_zero, Act.put, List.setIfInBounds_toArray, List.set_cons_succ, List.set_cons_zero])) | (guard_target =~ wpTreeC _ _ _ Tr.nil _ _ _; refine treeC_nil H (fun w3 H2 => ?_); clear H; (try clear w2); revert w3; intro w2 H)))
        have hx : (⟨e, b⟩ : Hf) ∈ halves es ∧ fromZ es ⟨e, b⟩ = z := ⟨HMEM.out, HZ.out⟩
        have ex := half_ends HR.out hx.1
        obtain ⟨x2, hx2⟩ : ∃ x2, fromZ es ⟨e, !b⟩ = x2 := ⟨_, rfl⟩
        obtain ⟨ox, oy, ho⟩ : ∃ ox oy, rpt vs z = ⟨ox, oy⟩ := ⟨_, _, rfl⟩
        obtain ⟨ax, ay, ha⟩ : ∃ ax ay, rpt vs x2 = ⟨ax, ay⟩ := ⟨_, _, rfl⟩
        have hf2 := fun F w h1 => hF1 F w e (!b) x2 h1 (twin_mem hx.1) hx2
        have ha1 := fun F w h1 => hA1 F w z ox oy h1 (by rw [← hx.2]; exact ex.1) ho
        have ha2 := fun F w h1 => hA1 F w x2 ax ay h1 (by rw [← hx2]; exact ex.2.1) ha
        have HX := Lib.hid hx
        have HX2 := Lib.hid hx2
        have HO := Lib.hid ho
        have HAa := Lib.hid ha
        clear hx ex hx2 ho ha
        have ⟨gkA, hgA⟩ : ∃ g, g = gk := ⟨_, rfl⟩
        obtain ⟨Ao, co, rfl⟩ := H.growForm m0
        generalize hLn : L.length = n2 at H hLl ⊢
        have HLN := Lib.hid hLn
        clear hLn
        have H := (H.grow_nil 36 2)
        go_loopg [8, 9, 10] n2 (OutRel (ltAt vs es z) ⟨e, b⟩ L n2 w.heap.size w (.grow 36 2 (.slice Ao n2 co) n2 (hR L)) (.rd (some ⟨b3, o3, none⟩) b3 o3 (hR (halves es)) :: .cells b1 [.slice A n c, .slice A2 m c2] :: .rd A2 b9 o9 (eR es) :: .rd A b0 o0 (vR vs) :: []))
        case atStart => exact ⟨[], false, by simp, Nat.le_refl _, rfl, by simp, H⟩
        case round =>
          clear H
          obtain ⟨l2, d2, hfold, hk2, rfl, rfl, H⟩ := hrel
          have hl2 : l2.length ≤ 4096 := by
            have := insS_lens (ltAt vs es z) ⟨e, b⟩ (L.take (n2 - gk)) ([], false)
            rw [hfold, List.length_take] at this
            simp only [List.length_nil] at this
            omega
          by_cases hlt2 : 0 < gk
          · obtain ⟨q, hq⟩ : ∃ q, n2 - gk = q := ⟨_, rfl⟩
            have hql : q < n2 := by omega
            rw [hq] at hfold ⊢
            obtain ⟨f, d, hf⟩ := hf_get (by have := HLN.out; omega : q < L.length)
            obtain ⟨bo, cq, ho⟩ := H.growSome m1 (by omega) (by decide)
            injection ho with ho1 ho2 ho3
            subst ho1 ho3
            have hp2 : (Res.grow 36 2 (.slice (some ⟨bo, 0, none⟩) n2 co) n2 (hR L)).at bo (q * 2) [.int .i64 f, .bool d] := at_grow (hR_at hf)
            have hy := HLS.out.1 _ (List.mem_of_getElem? hf)
            have ey := half_ends HR.out hy.1
            obtain ⟨y2, hy2⟩ : ∃ y2, fromZ es ⟨f, !d⟩ = y2 := ⟨_, rfl⟩
            obtain ⟨bx, b_y, hb2⟩ : ∃ bx b_y, rpt vs y2 = ⟨bx, b_y⟩ := ⟨_, _, rfl⟩
            have hf3 := fun F w h1 => hF1 F w f (!d) y2 h1 (twin_mem hy.1) hy2
            have ha3 := fun F w h1 => hA1 F w y2 bx b_y h1 (by rw [← hy2]; exact ey.2.1) hb2
            have har := fun w => aroundO_any HR.out HX.out hy HO.out (show rpt vs (toZ es ⟨e, b⟩) = ⟨ax, ay⟩ by rw [← HAa.out, ← HX2.out]; rfl) (show rpt vs (toZ es ⟨f, d⟩) = ⟨bx, b_y⟩ by rw [← hb2, ← hy2]; rfl) w
            have hlt3 : ltAt vs es z ⟨e, b⟩ ⟨f, d⟩ = decide (aroundZ (rpt vs z) (farP vs es ⟨e, b⟩) (farP vs es ⟨f, d⟩) < 0) := rfl
            generalize aroundZ (rpt vs z) (farP vs es ⟨e, b⟩) (farP vs es ⟨f, d⟩) = av at har hlt3
            have hst2 := foldl_take (insS (ltAt vs es z) ⟨e, b⟩) ([], false) hf
            rw [hfold] at hst2
            obtain ⟨v, hv⟩ : ∃ v, decide (av < 0) = v := ⟨_, rfl⟩
            rw [show insS (ltAt vs es z) ⟨e, b⟩ (l2, d2) ⟨f, d⟩ = (if (!d2 && v) = true then (l2 ++ [⟨e, b⟩, ⟨f, d⟩], true) else (l2 ++ [⟨f, d⟩], d2)) by rw [← hv, ← hlt3]; rfl] at hst2
            have HQ := Lib.hid hq
            generalize hl3 : l2.length = n3 at H hl2
            have HL3 := Lib.hid hl3
            generalize hX3 : hR l2 = X3 at H
            have HX3 := Lib.hid hX3
            clear hf hy ey hy2 hb2 hlt3 hfold hq hl3 hX3
            cases d2
            · cases v
              · have HS2 := Lib.hid hst2
                clear hst2
                have tk0 : True := trivial
                have tk1 : True := trivial
                go_wp2_with (first
                  | (guard_target =~ Code.wp _ (Code.region 12 _ true) _ _ _; refine region_treeC0 12 (G := True) (.q 0 (.q 1 (.q 2 (.q 3 (.q 4 (.q 5 (.q 6 (.q 7 (.q 8 (.q 9 (.q 10 (.q 11 (.q 12 (.q 13 (.q 14 (.q 15 (.q 16 (.q 17 (.q 18 (.q 19 (.q 20 (.q 21 (.q 22 (.q 23 (.q 24 (.q 25 (.q 26 .nil))))))))))))))))))))))))))) (by kernel_rfl) (by intro c a d v w h; cases d <;> exact h) (by kernel_rfl) H ⟨trivial⟩ (fun _ w3 H2 => ?_); (clear H; (try clear w2); revert w3; intro w2 H))
                  | (guard_target =~ wpList _ _ _ (_ :: _) _ _; (first | (guard_target =~ wpList _ _ _ (Oper.mk _ (.call { callee := .builtin .append, args := _, argTypes := _ }) _ _ _ _ :: _) _ _; refine BigFrame.wpList_want rfl (fun K hK => ?_); refine o_append (row := ?_) (n := ?_) (xs := ?_) (l' := ?_) infoHf rfl rfl rfl H ?_ rfl ?_ ?_ (by kernel_rfl) rfl (by decide) ?_ ?_ ?_ (fun v2 w3 H2 hn => hK _ _ ?_); rotate_left 4; (repeat first | exact .head _ | apply List.Mem.tail); (focus (simp; done)); (focus (intro _; (exact r1))); exact rfl; exact (by unfold maxLen; omega); exact (by omega); clear hK K hn; clear H; (try clear w2); revert w3; intro w2 H; simp only [List.take_succ_cons, List.take_zero, Nat.one_mul] at H; (obtain ⟨A7, c7, rfl⟩ := H.growForm (v := v2) (by repeat first | exact .head _ | apply List.Mem.tail))) | (guard_target =~ wpList _ _ _ (Oper.mk _ (.load _ _) _ _ _ _ :: _) _ _; refine BigFrame.wpList_want rfl (fun K hK => ?_); (refine o_loadN (cs := ?_) (r := ?_) rfl rfl H ?_ ?_ ?_ ?_ (hK _ _ ?_); rotate_left 2; (with_reducible assumption); (repeat first | exact .head _ | apply List.Mem.tail); (focus (intro _; simp; done)); (focus (intro _; simp; done))); clear hK K) | ((guard_target =~ wpList _ _ _ (Oper.mk _ (.buildSlice _ _ _) _ _ _ _ :: _) _ _; refine BigFrame.wpList_want rfl (fun K hK => ?_); refine o_buildSlice (C := ?_) (E := ?_) rfl rfl H ?_ rfl (fun w3 b2 he H2 => hK _ _ ?_); rotate_left 2; (focus (intro _; simp [go_sem, Instr.buildSlice]; with_reducible exact rfl))); clear hK K he; clear H; (try clear w2); revert w3; intro w2 H; simp [Act.eval, Value.cells, setL, List.getD] at H; (clear tk0; rename Nat => b4))); simp only [Act.put, List.setIfInBounds_toArray, List.set_cons_succ, List.set_cons_zero])
                  | (guard_target =~ wpTreeC _ _ _ _ _ _ _; first | (guard_target =~ wpTreeC _ _ _ (Tr.e _ Tr.nil) _ _ _; refine treeC_last (by decide +kernel) H rfl rfl (fun w3 H2 K hK => ?_); clear H; (try clear w2); (revert w3; intro w2 H); simp only [List.getElem_toArray, List.getElem_cons_succ, List.getElem_cons_zero]; (first | fail); simp only [Act.put, List.setIfInBounds_toArray, List.set_cons_succ, List.set_cons_zero]) | (guard_target =~ wpTreeC _ _ _ (Tr.q _ _) _ _ _; first | (refine treeC_quiet ⟨_, H, by repeat first | exact .here | apply Suf.there⟩ rfl rfl rfl (fun K hK => ?_); simp only [List.getElem_toArray, List.getElem_cons_succ, List.getElem_cons_zero]; first | (guard_target =~ Oper.quiet _ (Oper.mk _ (.load _ _) _ _ _ _) _ _ _; (first | (refine q_loadN (cs := ?_) (r := ?_) rfl rfl ?_ ?_ ?_ ?_ (hK _ ?_); rotate_left 2; (with_reducible assumption); (repeat first | exact .head _ | apply List.Mem.tail); (focus (intro _; simp; done)); (focus (intro _; simp; done))) | (refine q_loadNC (row := ?_) rfl rfl ?_ ?_ ?_ (hK _ ?_); rotate_left 1; (repeat first | exact .head _ | apply List.Mem.tail); (focus (intro _; simp; done)); (focus (intro _; simp; done)))); clear hK K; simp only [Act.put, List.setIfInBounds_toArray, List.set_cons_succ, List.set_cons_zero]) | (go_big_quiet_op; (try refine ⟨_, fun _ _ => rfl, ?_⟩); refine hK _ ?_; clear hK K)) | (refine treeC_call (v := ?_) ⟨_, H, by repeat first | exact .here | apply Suf.there⟩ rfl rfl (fun w3 H K hK => ?_) ?_; rotate_left 1; (focus (simp only [List.getElem_toArray, List.getElem_cons_succ, List.getElem_cons_zero]; first | (go_big_op; first | exact hK _ (Ext.refl _) | (go_at_call 32; (with_reducible refine (hf2 _ _ (by exact H.giveRd m4 f9)).mono ?_); rintro e w3 ⟨rfl, hb⟩; dsimp only; first | exact hK _ hb | exact hK _ (Ext.refl _)) | (go_at_call 32; (with_reducible refine (hf3 _ _ (by exact H.giveRd m4 f9)).mono ?_); rintro e w3 ⟨rfl, hb⟩; dsimp only; first | exact hK _ hb | exact hK _ (Ext.refl _)) | (go_at_call 20; (with_reducible refine (rtwin_any _ _ _).mono ?_); rintro e w3 ⟨rfl, hb⟩; dsimp only; first | exact hK _ hb | exact hK _ (Ext.refl _)) | (go_at_call 33; (with_reducible refine (ha1 _ _ (by exact H.giveRd m5 f0)).mono ?_); rintro e w3 ⟨rfl, hb⟩; dsimp only; first | exact hK _ hb | exact hK _ (Ext.refl _)) | (go_at_call 33; (with_reducible refine (ha2 _ _ (by exact H.giveRd m5 f0)).mono ?_); rintro e w3 ⟨rfl, hb⟩; dsimp only; first | exact hK _ hb | exact hK _ (Ext.refl _)) | (go_at_call 33; (with_reducible refine (ha3 _ _ (by exact H.giveRd m5 f0)).mono ?_); rintro e w3 ⟨rfl, hb⟩; dsimp only; first | exact hK _ hb | exact hK _ (Ext.refl _)) | (go_at_call 54; (with_reducible refine (har _).mono ?_); rintro e w3 ⟨rfl, hb⟩; dsimp only; first | exact hK _ hb | exact hK _ (Ext.refl _))))); simp only [List.getElem_toArray, List.getElem_cons_succ, List.getElem_cons_zero, Act.put, List.setIfInBounds_toArray, List.set_cons_succ, List.set_cons_zero]) | (refine treeC_skip ⟨_, H, by repeat first | exact .here | apply Suf.there⟩ rfl rfl ?_; simp only [List.getElem_toArray, List.getElem_cons_succ, List.getElem_cons_zero, Act.put, List.setIfInBounds_toArray, List.set_cons_succ, List.set_cons_zero])) | (guard_target =~ wpTreeC _ _ _ (Tr.both _ _) _ _ _; refine treeC_both ?_ ?_) | (guard_target =~ wpTreeC _ _ _ (Tr.e _ _) _ _ _; first | (refine treeC_one H rfl rfl (fun w3 H2 K hK => ?_); clear H; (try clear w2); (revert w3; intro w2 H); simp only [List.getElem_toArray, List.getElem_cons_succ, List.getElem_cons_zero]; first | ((first | fail); simp only [Act.put, List.setIfInBounds_toArray, List.set_cons_succ, List.set_cons_zero]) | (go_big_op; (first | fail))) | (refine treeC_one_skip (fun w3 hx => ⟨_, H.ext hx, by repeat first | exact .here | apply Suf.there⟩) rfl rfl (fun w3 hx => ?_); replace H := H.ext hx; clear hx; (try clear w2); revert w3; intro w2 H; simp only [List.getElem_toArray, List.getElem_cons_succ, List.getElem_cons_zero, Act.put, List.setIfInBounds_toArray, List.set_cons_succ, List.set_cons_zero])) | (guard_target =~ wpTreeC _ _ _ Tr.nil _ _ _; refine treeC_nil H (fun w3 H2 => ?_); clear H; (try clear w2); revert w3; intro w2 H)))
                go_roundg (gk - 1)
                case rel =>
                  refine ⟨l2 ++ [⟨f, d⟩], false, by rw [show n2 - (gk - 1) = q + 1 by have := HQ.out; omega]; simpa using HS2.out, by omega, rfl, by have := HQ.out; congr 1; omega, ?_⟩
                  have H4 := H.tail
                  rw [← HX3.out] at H4
                  rw [show (l2 ++ [(⟨f, d⟩ : Hf)]).length = n3 + 1 by rw [← HL3.out]; simp, show hR (l2 ++ [(⟨f, d⟩ : Hf)]) = hR l2 ++ [.int .i64 f, .bool d] by simp [hR, h2]]
                  exact H4
                case measure => omega
              · have HS2 := Lib.hid hst2
                clear hst2
                have tk0 : True := trivial
                have tk1 : True := trivial
                go_wp2_with (first
                  | (guard_target =~ Code.wp _ (Code.region 12 _ true) _ _ _; refine region_treeC0 12 (G := True) (.q 0 (.q 1 (.q 2 (.q 3 (.q 4 (.q 5 (.q 6 (.q 7 (.q 8 (.q 9 (.q 10 (.q 11 (.q 12 (.q 13 (.q 14 (.q 15 (.q 16 (.q 17 (.q 18 (.q 19 (.q 20 (.q 21 (.q 22 (.q 23 (.q 24 (.q 25 (.q 26 .nil))))))))))))))))))))))))))) (by kernel_rfl) (by intro c a d v w h; cases d <;> exact h) (by kernel_rfl) H ⟨trivial⟩ (fun _ w3 H2 => ?_); (clear H; (try clear w2); revert w3; intro w2 H))
                  | (guard_target =~ wpList _ _ _ (_ :: _) _ _; (first | (guard_target =~ wpList _ _ _ (Oper.mk _ (.call { callee := .builtin .append, args := _, argTypes := _ }) _ _ _ _ :: _) _ _; refine BigFrame.wpList_want rfl (fun K hK => ?_); refine o_append (row := ?_) (n := ?_) (xs := ?_) (l' := ?_) infoHf rfl rfl rfl H ?_ rfl ?_ ?_ (by kernel_rfl) rfl (by decide) ?_ ?_ ?_ (fun v2 w3 H2 hn => hK _ _ ?_); rotate_left 4; (repeat first | exact .head _ | apply List.Mem.tail); (focus (simp; done)); (focus (intro _; (first | exact r1 | exact r2))); exact rfl; exact (by unfold maxLen; omega); exact (by omega); clear hK K hn; clear H; (try clear w2); revert w3; intro w2 H; simp only [List.take_succ_cons, List.take_zero, Nat.one_mul] at H; (obtain ⟨A7, c7, rfl⟩ := H.growForm (v := v2) (by repeat first | exact .head _ | apply List.Mem.tail))) | (guard_target =~ wpList _ _ _ (Oper.mk _ (.load _ _) _ _ _ _ :: _) _ _; refine BigFrame.wpList_want rfl (fun K hK => ?_); (refine o_loadN (cs := ?_) (r := ?_) rfl rfl H ?_ ?_ ?_ ?_ (hK _ _ ?_); rotate_left 2; (with_reducible assumption); (repeat first | exact .head _ | apply List.Mem.tail); (focus (intro _; simp; done)); (focus (intro _; simp; done))); clear hK K) | ((guard_target =~ wpList _ _ _ (Oper.mk _ (.buildSlice _ _ _) _ _ _ _ :: _) _ _; refine BigFrame.wpList_want rfl (fun K hK => ?_); refine o_buildSlice (C := ?_) (E := ?_) rfl rfl H ?_ rfl (fun w3 b2 he H2 => hK _ _ ?_); rotate_left 2; (focus (intro _; simp [go_sem, Instr.buildSlice]; with_reducible exact rfl))); clear hK K he; clear H; (try clear w2); revert w3; intro w2 H; simp [Act.eval, Value.cells, setL, List.getD] at H; (first | (clear tk0; rename Nat => b4) | (clear tk1; rename Nat => b5)))); simp only [Act.put, List.setIfInBounds_toArray, List.set_cons_succ, List.set_cons_zero])
                  | (guard_target =~ wpTreeC _ _ _ _ _ _ _; first | (guard_target =~ wpTreeC _ _ _ (Tr.e _ Tr.nil) _ _ _; refine treeC_last (by decide +kernel) H rfl rfl (fun w3 H2 K hK => ?_); clear H; (try clear w2); (revert w3; intro w2 H); simp only [List.getElem_toArray, List.getElem_cons_succ, List.getElem_cons_zero]; (first | fail); simp only [Act.put, List.setIfInBounds_toArray, List.set_cons_succ, List.set_cons_zero]) | (guard_target =~ wpTreeC _ _ _ (Tr.q _ _) _ _ _; first | (refine treeC_quiet ⟨_, H, by repeat first | exact .here | apply Suf.there⟩ rfl rfl rfl (fun K hK => ?_); simp only [List.getElem_toArray, List.getElem_cons_succ, List.getElem_cons_zero]; first | (guard_target =~ Oper.quiet _ (Oper.mk _ (.load _ _) _ _ _ _) _ _ _; (first | (refine q_loadN (cs := ?_) (r := ?_) rfl rfl ?_ ?_ ?_ ?_ (hK _ ?_); rotate_left 2; (with_reducible assumption); (repeat first | exact .head _ | apply List.Mem.tail); (focus (intro _; simp; done)); (focus (intro _; simp; done))) | (refine q_loadNC (row := ?_) rfl rfl ?_ ?_ ?_ (hK _ ?_); rotate_left 1; (repeat first | exact .head _ | apply List.Mem.tail); (focus (intro _; simp; done)); (focus (intro _; simp; done)))); clear hK K; simp only [Act.put, List.setIfInBounds_toArray, List.set_cons_succ, List.set_cons_zero]) | (go_big_quiet_op; (try refine ⟨_, fun _ _ => rfl, ?_⟩); refine hK _ ?_; clear hK K)) | (refine treeC_call (v := ?_) ⟨_, H, by repeat first | exact .here | apply Suf.there⟩ rfl rfl (fun w3 H K hK => ?_) ?_; rotate_left 1; (focus (simp only [List.getElem_toArray, List.getElem_cons_succ, List.getElem_cons_zero]; first | (go_big_op; first | exact hK _ (Ext.refl _) | (go_at_call 32; (with_reducible refine (hf2 _ _ (by exact H.giveRd m4 f9)).mono ?_); rintro e w3 ⟨rfl, hb⟩; dsimp only; first | exact hK _ hb | exact hK _ (Ext.refl _)) | (go_at_call 32; (with_reducible refine (hf3 _ _ (by exact H.giveRd m4 f9)).mono ?_); rintro e w3 ⟨rfl, hb⟩; dsimp only; first | exact hK _ hb | exact hK _ (Ext.refl _)) | (go_at_call 20; (with_reducible refine (rtwin_any _ _ _).mono ?_); rintro e w3 ⟨rfl, hb⟩; dsimp only; first | exact hK _ hb | exact hK _ (Ext.refl _)) | (go_at_call 33; (with_reducible refine (ha1 _ _ (by exact H.giveRd m5 f0)).mono ?_); rintro e w3 ⟨rfl, hb⟩; dsimp only; first | exact hK _ hb | exact hK _ (Ext.refl _)) | (go_at_call 33; (with_reducible refine (ha2 _ _ (by exact H.giveRd m5 f0)).mono ?_); rintro e w3 ⟨rfl, hb⟩; dsimp only; first | exact hK _ hb | exact hK _ (Ext.refl _)) | (go_at_call 33; (with_reducible refine (ha3 _ _ (by exact H.giveRd m5 f0)).mono ?_); rintro e w3 ⟨rfl, hb⟩; dsimp only; first | exact hK _ hb | exact hK _ (Ext.refl _)) | (go_at_call 54; (with_reducible refine (har _).mono ?_); rintro e w3 ⟨rfl, hb⟩; dsimp only; first | exact hK _ hb | exact hK _ (Ext.refl _))))); simp only [List.getElem_toArray, List.getElem_cons_succ, List.getElem_cons_zero, Act.put, List.setIfInBounds_toArray, List.set_cons_succ, List.set_cons_zero]) | (refine treeC_skip ⟨_, H, by repeat first | exact .here | apply Suf.there⟩ rfl rfl ?_; simp only [List.getElem_toArray, List.getElem_cons_succ, List.getElem_cons_zero, Act.put, List.setIfInBounds_toArray, List.set_cons_succ, List.set_cons_zero])) | (guard_target =~ wpTreeC _ _ _ (Tr.both _ _) _ _ _; refine treeC_both ?_ ?_) | (guard_target =~ wpTreeC _ _ _ (Tr.e _ _) _ _ _; first | (refine treeC_one H rfl rfl (fun w3 H2 K hK => ?_); clear H; (try clear w2); (revert w3; intro w2 H); simp only [List.getElem_toArray, List.getElem_cons_succ, List.getElem_cons_zero]; first | ((first | fail); simp only [Act.put, List.setIfInBounds_toArray, List.set_cons_succ, List.set_cons_zero]) | (go_big_op; (first | fail))) | (refine treeC_one_skip (fun w3 hx => ⟨_, H.ext hx, by repeat first | exact .here | apply Suf.there⟩) rfl rfl (fun w3 hx => ?_); replace H := H.ext hx; clear hx; (try clear w2); revert w3; intro w2 H; simp only [List.getElem_toArray, List.getElem_cons_succ, List.getElem_cons_zero, Act.put, List.setIfInBounds_toArray, List.set_cons_succ, List.set_cons_zero])) | (guard_target =~ wpTreeC _ _ _ Tr.nil _ _ _; refine treeC_nil H (fun w3 H2 => ?_); clear H; (try clear w2); revert w3; intro w2 H)))
                go_roundg (gk - 1)
                case rel =>
                  refine ⟨l2 ++ [⟨e, b⟩, ⟨f, d⟩], true, by rw [show n2 - (gk - 1) = q + 1 by have := HQ.out; omega]; simpa using HS2.out, by omega, rfl, by have := HQ.out; congr 1; omega, ?_⟩
                  have H4 := H.tail.tail
                  rw [← HX3.out] at H4
                  rw [show (l2 ++ [(⟨e, b⟩ : Hf), ⟨f, d⟩]).length = n3 + 2 by rw [← HL3.out]; simp, show hR (l2 ++ [(⟨e, b⟩ : Hf), ⟨f, d⟩]) = hR l2 ++ [.int .i64 e, .bool b, .int .i64 f, .bool d] by simp [hR, h2]]
                  simpa using H4
                case measure => omega
            · have HS2 := Lib.hid hst2
              clear hst2
              have tk0 : True := trivial
              have tk1 : True := trivial
              go_wp2_with (first
                | (guard_target =~ Code.wp _ (Code.region 12 _ true) _ _ _; refine region_treeC0 12 (G := True) (.q 0 (.q 1 (.q 2 (.q 3 (.q 4 (.q 5 (.q 6 (.q 7 (.q 8 (.q 9 (.q 10 (.q 11 (.q 12 (.q 13 (.q 14 (.q 15 (.q 16 (.q 17 (.q 18 (.q 19 (.q 20 (.q 21 (.q 22 (.q 23 (.q 24 (.q 25 (.q 26 .nil))))))))))))))))))))))))))) (by kernel_rfl) (by intro c a d v w h; cases d <;> exact h) (by kernel_rfl) H ⟨trivial⟩ (fun _ w3 H2 => ?_); (clear H; (try clear w2); revert w3; intro w2 H))
                | (guard_target =~ wpList _ _ _ (_ :: _) _ _; (first | (guard_target =~ wpList _ _ _ (Oper.mk _ (.call { callee := .builtin .append, args := _, argTypes := _ }) _ _ _ _ :: _) _ _; refine BigFrame.wpList_want rfl (fun K hK => ?_); refine o_append (row := ?_) (n := ?_) (xs := ?_) (l' := ?_) infoHf rfl rfl rfl H ?_ rfl ?_ ?_ (by kernel_rfl) rfl (by decide) ?_ ?_ ?_ (fun v2 w3 H2 hn => hK _ _ ?_); rotate_left 4; (repeat first | exact .head _ | apply List.Mem.tail); (focus (simp; done)); (focus (intro _; (exact r1))); exact rfl; exact (by unfold maxLen; omega); exact (by omega); clear hK K hn; clear H; (try clear w2); revert w3; intro w2 H; simp only [List.take_succ_cons, List.take_zero, Nat.one_mul] at H; (obtain ⟨A7, c7, rfl⟩ := H.growForm (v := v2) (by repeat first | exact .head _ | apply List.Mem.tail))) | (guard_target =~ wpList _ _ _ (Oper.mk _ (.load _ _) _ _ _ _ :: _) _ _; refine BigFrame.wpList_want rfl (fun K hK => ?_); (refine o_loadN (cs := ?_) (r := ?_) rfl rfl H ?_ ?_ ?_ ?_ (hK _ _ ?_); rotate_left 2; (with_reducible assumption); (repeat first | exact .head _ | apply List.Mem.tail); (focus (intro _; simp; done)); (focus (intro _; simp; done))); clear hK K) | ((guard_target =~ wpList _ _ _ (Oper.mk _ (.buildSlice _ _ _) _ _ _ _ :: _) _ _; refine BigFrame.wpList_want rfl (fun K hK => ?_); refine o_buildSlice (C := ?_) (E := ?_) rfl rfl H ?_ rfl (fun w3 b2 he H2 => hK _ _ ?_); rotate_left 2; (focus (intro _; simp [go_sem, Instr.buildSlice]; with_reducible exact rfl))); clear hK K he; clear H; (try clear w2); revert w3; intro w2 H; simp [Act.eval, Value.cells, setL, List.getD] at H; (clear tk0; rename Nat => b4))); simp only [Act.put, List.setIfInBounds_toArray, List.set_cons_succ, List.set_cons_zero])
                | (guard_target =~ wpTreeC _ _ _ _ _ _ _; first | (guard_target =~ wpTreeC _ _ _ (Tr.e _ Tr.nil) _ _ _; refine treeC_last (by decide +kernel) H rfl rfl (fun w3 H2 K hK => ?_); clear H; (try clear w2); (revert w3; intro w2 H); simp only [List.getElem_toArray, List.getElem_cons_succ, List.getElem_cons_zero]; (first | fail); simp only [Act.put, List.setIfInBounds_toArray, List.set_cons_succ, List.set_cons_zero]) | (guard_target =~ wpTreeC _ _ _ (Tr.q _ _) _ _ _; first | (refine treeC_quiet ⟨_, H, by repeat first | exact .here | apply Suf.there⟩ rfl rfl rfl (fun K hK => ?_); simp only [List.getElem_toArray, List.getElem_cons_succ, List.getElem_cons_zero]; first | (guard_target =~ Oper.quiet _ (Oper.mk _ (.load _ _) _ _ _ _) _ _ _; (first | fail); clear hK K; simp only [Act.put, List.setIfInBounds_toArray, List.set_cons_succ, List.set_cons_zero]) | (go_big_quiet_op; (try refine ⟨_, fun _ _ => rfl, ?_⟩); refine hK _ ?_; clear hK K)) | (refine treeC_call (v := ?_) ⟨_, H, by repeat first | exact .here | apply Suf.there⟩ rfl rfl (fun w3 H K hK => ?_) ?_; rotate_left 1; (focus (simp only [List.getElem_toArray, List.getElem_cons_succ, List.getElem_cons_zero]; first | (go_big_op; first | exact hK _ (Ext.refl _) | (go_at_call 32; (with_reducible refine (hf2 _ _ (by first | fail)).mono ?_); rintro e w3 ⟨rfl, hb⟩; dsimp only; first | exact hK _ hb | exact hK _ (Ext.refl _)) | (go_at_call 32; (with_reducible refine (hf3 _ _ (by first | fail)).mono ?_); rintro e w3 ⟨rfl, hb⟩; dsimp only; first | exact hK _ hb | exact hK _ (Ext.refl _)) | (go_at_call 20; (with_reducible refine (rtwin_any _ _ _).mono ?_); rintro e w3 ⟨rfl, hb⟩; dsimp only; first | exact hK _ hb | exact hK _ (Ext.refl _)) | (go_at_call 33; (with_reducible refine (ha1 _ _ (by first | fail)).mono ?_); rintro e w3 ⟨rfl, hb⟩; dsimp only; first | exact hK _ hb | exact hK _ (Ext.refl _)) | (go_at_call 33; (with_reducible refine (ha2 _ _ (by first | fail)).mono ?_); rintro e w3 ⟨rfl, hb⟩; dsimp only; first | exact hK _ hb | exact hK _ (Ext.refl _)) | (go_at_call 33; (with_reducible refine (ha3 _ _ (by first | fail)).mono ?_); rintro e w3 ⟨rfl, hb⟩; dsimp only; first | exact hK _ hb | exact hK _ (Ext.refl _)) | (go_at_call 54; (with_reducible refine (har _).mono ?_); rintro e w3 ⟨rfl, hb⟩; dsimp only; first | exact hK _ hb | exact hK _ (Ext.refl _))))); simp only [List.getElem_toArray, List.getElem_cons_succ, List.getElem_cons_zero, Act.put, List.setIfInBounds_toArray, List.set_cons_succ, List.set_cons_zero]) | (refine treeC_skip ⟨_, H, by repeat first | exact .here | apply Suf.there⟩ rfl rfl ?_; simp only [List.getElem_toArray, List.getElem_cons_succ, List.getElem_cons_zero, Act.put, List.setIfInBounds_toArray, List.set_cons_succ, List.set_cons_zero])) | (guard_target =~ wpTreeC _ _ _ (Tr.both _ _) _ _ _; refine treeC_both ?_ ?_) | (guard_target =~ wpTreeC _ _ _ (Tr.e _ _) _ _ _; first | (refine treeC_one H rfl rfl (fun w3 H2 K hK => ?_); clear H; (try clear w2); (revert w3; intro w2 H); simp only [List.getElem_toArray, List.getElem_cons_succ, List.getElem_cons_zero]; first | ((first | fail); simp only [Act.put, List.setIfInBounds_toArray, List.set_cons_succ, List.set_cons_zero]) | (go_big_op; (first | fail))) | (refine treeC_one_skip (fun w3 hx => ⟨_, H.ext hx, by repeat first | exact .here | apply Suf.there⟩) rfl rfl (fun w3 hx => ?_); replace H := H.ext hx; clear hx; (try clear w2); revert w3; intro w2 H; simp only [List.getElem_toArray, List.getElem_cons_succ, List.getElem_cons_zero, Act.put, List.setIfInBounds_toArray, List.set_cons_succ, List.set_cons_zero])) | (guard_target =~ wpTreeC _ _ _ Tr.nil _ _ _; refine treeC_nil H (fun w3 H2 => ?_); clear H; (try clear w2); revert w3; intro w2 H)))
              go_roundg (gk - 1)
              case rel =>
                refine ⟨l2 ++ [⟨f, d⟩], true, by rw [show n2 - (gk - 1) = q + 1 by have := HQ.out; omega]; simpa using HS2.out, by omega, rfl, by have := HQ.out; congr 1; omega, ?_⟩
                have H4 := H.tail
                rw [← HX3.out] at H4
                rw [show (l2 ++ [(⟨f, d⟩ : Hf)]).length = n3 + 1 by rw [← HL3.out]; simp, show hR (l2 ++ [(⟨f, d⟩ : Hf)]) = hR l2 ++ [.int .i64 f, .bool d] by simp [hR, h2]]
                exact H4
              case measure => omega
          · obtain rfl : gk = 0 := by omega
            rw [Nat.sub_zero, List.take_of_length_le (by have := HLN.out; omega)] at hfold
            have hE := insS_eq (ltAt vs es z) ⟨e, b⟩ L []
            rw [hfold, List.nil_append] at hE
            unfold insE at hE
            generalize hl3 : l2.length = n3 at H hl2
            have HL3 := Lib.hid hl3
            generalize hX3 : hR l2 = X3 at H
            have HX3 := Lib.hid hX3
            clear hfold hl3 hX3
            cases d2
            · have HEE := Lib.hid hE
              clear hE
              have tk0 : True := trivial
              have tk1 : True := trivial
              go_wp2_with (guard_target =~ wpList _ _ _ (_ :: _) _ _; (first | (guard_target =~ wpList _ _ _ (Oper.mk _ (.call { callee := .builtin .append, args := _, argTypes := _ }) _ _ _ _ :: _) _ _; refine BigFrame.wpList_want rfl (fun K hK => ?_); refine o_append (row := ?_) (n := ?_) (xs := ?_) (l' := ?_) infoHf rfl rfl rfl H ?_ rfl ?_ ?_ (by kernel_rfl) rfl (by decide) ?_ ?_ ?_ (fun v2 w3 H2 hn => hK _ _ ?_); rotate_left 4; (repeat first | exact .head _ | apply List.Mem.tail); (focus (simp; done)); (focus (intro _; (exact r1))); exact rfl; exact (by unfold maxLen; omega); exact (by omega); clear hK K hn; clear H; (try clear w2); revert w3; intro w2 H; simp only [List.take_succ_cons, List.take_zero, Nat.one_mul] at H; (obtain ⟨A7, c7, rfl⟩ := H.growForm (v := v2) (by repeat first | exact .head _ | apply List.Mem.tail))) | (guard_target =~ wpList _ _ _ (Oper.mk _ (.load _ _) _ _ _ _ :: _) _ _; refine BigFrame.wpList_want rfl (fun K hK => ?_); (refine o_loadN (cs := ?_) (r := ?_) rfl rfl H ?_ ?_ ?_ ?_ (hK _ _ ?_); rotate_left 2; (with_reducible assumption); (repeat first | exact .head _ | apply List.Mem.tail); (focus (intro _; simp; done)); (focus (intro _; simp; done))); clear hK K) | ((guard_target =~ wpList _ _ _ (Oper.mk _ (.buildSlice _ _ _) _ _ _ _ :: _) _ _; refine BigFrame.wpList_want rfl (fun K hK => ?_); refine o_buildSlice (C := ?_) (E := ?_) rfl rfl H ?_ rfl (fun w3 b2 he H2 => hK _ _ ?_); rotate_left 2; (focus (intro _; simp [go_sem, Instr.buildSlice]; with_reducible exact rfl))); clear hK K he; clear H; (try clear w2); revert w3; intro w2 H; simp [Act.eval, Value.cells, setL, List.getD] at H; (clear tk0; rename Nat => b4))); simp only [Act.put, List.setIfInBounds_toArray, List.set_cons_succ, List.set_cons_zero])
              go_roundg (gkA - 1)
              case rel =>
                refine ⟨l2 ++ [⟨e, b⟩], by rw [show N - (gkA - 1) = j + 1 by have := HJ.out; omega, HST.out, ← HEE.out]; simp, by omega, by have := HJ.out; congr 1; omega, ?_⟩
                have H4 := H.tail.swap.tail
                rw [← HX3.out] at H4
                rw [show (l2 ++ [(⟨e, b⟩ : Hf)]).length = n3 + 1 by rw [← HL3.out]; simp, show hR (l2 ++ [(⟨e, b⟩ : Hf)]) = hR l2 ++ [.int .i64 e, .bool b] by simp [hR, h2]]
                exact H4
              case measure => omega
            · have HEE := Lib.hid hE
              clear hE
              have tk0 : True := trivial
              have tk1 : True := trivial
              go_wp2_with (first | fail)
              go_roundg (gkA - 1)
              case rel =>
                refine ⟨l2, by rw [show N - (gkA - 1) = j + 1 by have := HJ.out; omega, HST.out, ← HEE.out]; simp, by omega, by have := HJ.out; congr 1; omega, ?_⟩
                rw [HL3.out, HX3.out]
                exact H.swap.tail
              case measure => omega
      · rw [if_neg hzi] at HST
        have hxz : (z == id) = false := by simpa using hzi
        have HZI := Lib.hid hzi
        clear hzi
        go_wp2_with (first
          | (guard_target =~ Code.wp _ (Code.region 6 _ true) _ _ _; refine region_treeC0 6 (G := True) (.q 0 (.q 1 (.q 2 (.q 3 (.q 4 (.q 5 (.q 6 (.q 7 .nil)))))))) (by kernel_rfl) (by intro c a d v w h; cases d <;> exact h) (by kernel_rfl) H ⟨trivial⟩ (fun _ w3 H2 => ?_); (clear H; (try clear w2); revert w3; intro w2 H))
          | (guard_target =~ wpTreeC _ _ _ _ _ _ _; first | (guard_target =~ wpTreeC _ _ _ (Tr.e _ Tr.nil) _ _ _; refine treeC_last (by decide +kernel) H rfl rfl (fun w3 H2 K hK => ?_); clear H; (try clear w2); (revert w3; intro w2 H); simp only [List.getElem_toArray, List.getElem_cons_succ, List.getElem_cons_zero]; (first | fail); simp only [Act.put, List.setIfInBounds_toArray, List.set_cons_succ, List.set_cons_zero]) | (guard_target =~ wpTreeC _ _ _ (Tr.q _ _) _ _ _; first | (refine treeC_quiet ⟨_, H, by repeat first | exact .here | apply Suf.there⟩ rfl rfl rfl (fun K hK => ?_); simp only [List.getElem_toArray, List.getElem_cons_succ, List.getElem_cons_zero]; first | (guard_target =~ Oper.quiet _ (Oper.mk _ (.load _ _) _ _ _ _) _ _ _; (first | (refine q_loadN (cs := ?_) (r := ?_) rfl rfl ?_ ?_ ?_ ?_ (hK _ ?_); rotate_left 2; (with_reducible assumption); (repeat first | exact .head _ | apply List.Mem.tail); (focus (intro _; simp; done)); (focus (intro _; simp; done))) | (refine q_loadNC (row := ?_) rfl rfl ?_ ?_ ?_ (hK _ ?_); rotate_left 1; (repeat first | exact .head _ | apply List.Mem.tail); (focus (intro _; simp; done)); (focus (intro _; simp; done)))); clear hK K; simp only [Act.put, List.setIfInBounds_toArray, List.set_cons_succ, List.set_cons_zero]) | (go_big_quiet_op; (try refine ⟨_, fun _ _ => rfl, ?_⟩); refine hK _ ?_; clear hK K)) | (refine treeC_call (v := ?_) ⟨_, H, by repeat first | exact .here | apply Suf.there⟩ rfl rfl (fun w3 H K hK => ?_) ?_; rotate_left 1; (focus (simp only [List.getElem_toArray, List.getElem_cons_succ, List.getElem_cons_zero]; first | (go_big_op; first | exact hK _ (Ext.refl _) | (go_at_call 32; (with_reducible refine (hf1 _ _ (by exact H.giveRd m3 f9)).mono ?_); rintro e w3 ⟨rfl, hb⟩; dsimp only; first | exact hK _ hb | exact hK _ (Ext.refl _))))); simp only [List.getElem_toArray, List.getElem_cons_succ, List.getElem_cons_zero, Act.put, List.setIfInBounds_toArray, List.set_cons_succ, List.set_cons_zero]) | (refine treeC_skip ⟨_, H, by repeat first | exact .here | apply Suf.there⟩ rfl rfl ?_; simp only [List.getElem_toArray, List.getElem_cons_succ, List.getElem_cons_zero, Act.put, List.setIfInBounds_toArray, List.set_cons_succ, List.set_cons_zero])) | (guard_target =~ wpTreeC _ _ _ (Tr.both _ _) _ _ _; refine treeC_both ?_ ?_) | (guard_target =~ wpTreeC _ _ _ (Tr.e _ _) _ _ _; first | (refine treeC_one H rfl rfl (fun w3 H2 K hK => ?_); clear H; (try clear w2); (revert w3; intro w2 H); simp only [List.getElem_toArray, List.getElem_cons_succ, List.getElem_cons_zero]; first | ((first | fail); simp only [Act.put, List.setIfInBounds_toArray, List.set_cons_succ, List.set_cons_zero]) | (go_big_op; (first | fail))) | (refine treeC_one_skip (fun w3 hx => ⟨_, H.ext hx, by repeat first | exact .here | apply Suf.there⟩) rfl rfl (fun w3 hx => ?_); replace H := H.ext hx; clear hx; (try clear w2); revert w3; intro w2 H; simp only [List.getElem_toArray, List.getElem_cons_succ, List.getElem_cons_zero, Act.put, List.setIfInBounds_toArray, List.set_cons_succ, List.set_cons_zero])) | (guard_target =~ wpTreeC _ _ _ Tr.nil _ _ _; refine treeC_nil H (fun w3 H2 => ?_); clear H; (try clear w2); revert w3; intro w2 H)))
        go_roundg (gk - 1)
        case rel => exact ⟨L, by rw [show N - (gk - 1) = j + 1 by have := HJ.out; omega, HST.out], by omega, by have := HJ.out; congr 1; omega, H⟩
        case measure => omega
    · obtain rfl : gk = 0 := by omega
      rw [Nat.sub_zero, List.take_of_length_le (by have := HN.out; omega), outF_all] at hL
      subst hL
      go_wp2_with (first | fail)
      obtain ⟨Ar, cr, rfl, h4, h5, h6⟩ := H.giveGrow m0 HF.out
      go_ret
      exact ⟨Ar, cr, rfl, H.below, h6, h4, h5⟩
end Go.Proofs.Ytlhmjhildlnokaa

/-
  The walk of the document's Next.
-/
namespace Go.Proofs.Ytlhmjhildlnokaa
set_option linter.unusedVariables false
set_option linter.unusedSimpArgs false
open Go.RowKit

theorem outZ_len (vs : List Vt) (es : List Eg) (v : Int) : (outZ vs es v).length ≤ (halves es).length := (outF_at vs es v (halves es) (fun _ h => h)).2
set_option maxRecDepth 100000 in
set_option maxHeartbeats 16000000 in
theorem rnext_any (vs : List Vt) (es : List Eg) (A A2 : Option Addr) (n m c c2 : Nat) (F : Nat → Prop) (e0 : Int) (b0' : Bool) (w : World) (hR0 : RightP vs es) (hn : n = vs.length) (hm : m = es.length) (hs : Sl F w A (vR vs)) (hs2 : Sl F w A2 (eR es)) (hF : ∀ k, F k → k < w.heap.size) (hh : (⟨e0, b0'⟩ : Hf) ∈ halves es) :
    Calls Try.prog 31 #[.agg #[.slice A n c, .slice A2 m c2], .agg #[.int .i64 e0, .bool b0']] w fun e w' => e = .returned (hV (nextZ vs es ⟨e0, b0'⟩)) ∧ Below w.heap.size w w' := by
  obtain ⟨b0, o0, H1, f0⟩ := (Own.start w).addSl (hs.ro (by rfl))
  obtain ⟨b9, o9, H, f9⟩ := H1.addSl (hs2.ro (by rfl))
  clear hs hs2 H1
  have h1 := fun F w h1 h2 hF => rout_any vs es A A2 n m c c2 F (toZ es ⟨e0, b0'⟩) w hR0 hn hm h1 h2 hF
  have hf1 := fun F w h1 => fromR_any hR0 A A2 n m c c2 F e0 (!b0') (toZ es ⟨e0, b0'⟩) w hm h1 (twin_mem hh) rfl
  have hq := eqH_eql
  have hg := eqH_guard
  obtain ⟨nh, hnx⟩ : ∃ nh, nextZ vs es ⟨e0, b0'⟩ = nh := ⟨_, rfl⟩
  obtain ⟨ne, nb⟩ := nh
  have hnd := outZ_nodup hR0 (toZ es ⟨e0, b0'⟩)
  have htw := twin_out hR0 hh
  have hpr : ∀ i : Nat, (outZ vs es (toZ es ⟨e0, b0'⟩))[i]? = some ⟨e0, !b0'⟩ → (outZ vs es (toZ es ⟨e0, b0'⟩))[(i + (outZ vs es (toZ es ⟨e0, b0'⟩)).length - 1) % (outZ vs es (toZ es ⟨e0, b0'⟩)).length]? = some ⟨ne, nb⟩ := fun i hi => by
    have h1 := prevC_at hnd hi
    have h2 : prevC (outZ vs es (toZ es ⟨e0, b0'⟩)) ⟨e0, !b0'⟩ = ⟨ne, nb⟩ := hnx
    rw [h2] at h1
    have hl : 0 < (outZ vs es (toZ es ⟨e0, b0'⟩)).length := Nat.lt_of_le_of_lt (Nat.zero_le _) (List.getElem?_eq_some_iff.1 hi).1
    rw [List.getElem?_eq_getElem (Nat.mod_lt _ hl)] at h1 ⊢
    exact congrArg some h1.symm
  have hll : (outZ vs es (toZ es ⟨e0, b0'⟩)).length ≤ 2048 := Nat.le_trans (outZ_len _ _ _) (few_halves hR0)
  rw [hnx]
  generalize toZ es ⟨e0, b0'⟩ = z at h1 hf1 hpr htw hll
  generalize outZ vs es z = L at h1 hpr htw hll
  have HPR := Lib.hid hpr
  have HTW := Lib.hid htw
  have HF := Lib.hid hF
  clear hn hm hR0 hF hnx hnd hpr htw hh
  go_enter Try.func31, Try.ntmps31
  have tk0 : True := trivial
  have tk1 : True := trivial
  have tk2 : True := trivial
  go_wp2_with (first
    | (go_at_call 24; (with_reducible refine (h1 _ _ (by exact H.giveRd m4 f0) (by exact H.giveRd m3 f9) (H.fw_lt rfl HF.out)).mono ?_); rintro e w3 ⟨A3, c3, rfl, hb, s3, q3, q4⟩; replace H := H.ext hb; clear hb; obtain ⟨b3, o3, H4, f3⟩ := H.addSl s3; clear H s3; have H := H4; clear H4; dsimp only; (refine hK _ _ ⟨_, H, by repeat first | exact .here | apply Suf.there⟩ ?_; clear hK K; (try simp only [Act.put, List.setIfInBounds_toArray, List.set_cons_succ, List.set_cons_zero])))
    | (guard_target =~ Code.wp _ (Code.region 1 _ true) _ _ _; refine region_treeC0 1 (G := True) (.q 0 (.q 1 (.q 2 (.q 3 (.q 4 (.e 5 (.q 6 .nil))))))) (by kernel_rfl) (by intro c a d v w h; cases d <;> exact h) (by kernel_rfl) H ⟨trivial⟩ (fun _ w3 H2 => ?_); (clear H; (try clear w2); revert w3; intro w2 H))
    | (guard_target =~ wpList _ _ _ (_ :: _) _ _; ((first | (guard_target =~ wpList _ _ _ (Oper.mk _ (.alloc _) _ _ _ _ :: _) _ _; refine BigFrame.wpList_want rfl (fun K hK => ?_); refine o_alloc (z := ?_) rfl ?_ H rfl (fun w3 b2 he H2 => hK _ _ ?_); rotate_left 1; (focus (intro _; simp; with_reducible exact rfl))) | (guard_target =~ wpList _ _ _ (Oper.mk _ (.box _ _) _ _ _ _ :: _) _ _; refine BigFrame.wpList_want rfl (fun K hK => ?_); refine o_box rfl H rfl (fun w3 b2 he H2 => hK _ _ ?_))); clear hK K he; clear H; (try clear w2); revert w3; intro w2 H; simp [Act.eval, Value.cells, setL, List.getD] at H; (first | (clear tk0; rename Nat => b1) | (clear tk1; rename Nat => b2) | (clear tk2; rename Nat => b4))); simp only [Act.put, List.setIfInBounds_toArray, List.set_cons_succ, List.set_cons_zero])
    | (guard_target =~ wpTreeC _ _ _ _ _ _ _; first | (guard_target =~ wpTreeC _ _ _ (Tr.e _ Tr.nil) _ _ _; refine treeC_last (by decide +kernel) H rfl rfl (fun w3 H2 K hK => ?_); clear H; (try clear w2); (revert w3; intro w2 H); simp only [List.getElem_toArray, List.getElem_cons_succ, List.getElem_cons_zero]; (first | fail); simp only [Act.put, List.setIfInBounds_toArray, List.set_cons_succ, List.set_cons_zero]) | (guard_target =~ wpTreeC _ _ _ (Tr.q _ _) _ _ _; first | (refine treeC_quiet ⟨_, H, by repeat first | exact .here | apply Suf.there⟩ rfl rfl rfl (fun K hK => ?_); simp only [List.getElem_toArray, List.getElem_cons_succ, List.getElem_cons_zero]; first | (guard_target =~ Oper.quiet _ (Oper.mk _ (.load _ _) _ _ _ _) _ _ _; (refine q_loadNC (row := ?_) rfl rfl ?_ ?_ ?_ (hK _ ?_); rotate_left 1; (repeat first | exact .head _ | apply List.Mem.tail); (focus (intro _; simp; done)); (focus (intro _; simp; done))); clear hK K; simp only [Act.put, List.setIfInBounds_toArray, List.set_cons_succ, List.set_cons_zero]) | (go_big_quiet_op; (try refine ⟨_, fun _ _ => rfl, ?_⟩); refine hK _ ?_; clear hK K)) | (refine treeC_call (v := ?_) ⟨_, H, by repeat first | exact .here | apply Suf.there⟩ rfl rfl (fun w3 H K hK => ?_) ?_; rotate_left 1; (focus (simp only [List.getElem_toArray, List.getElem_cons_succ, List.getElem_cons_zero]; first | (go_big_op; first | exact hK _ (Ext.refl _) | (go_at_call 20; (with_reducible refine (rtwin_any _ _ _).mono ?_); rintro e w3 ⟨rfl, hb⟩; dsimp only; first | exact hK _ hb | exact hK _ (Ext.refl _)) | (go_at_call 32; (with_reducible refine (hf1 _ _ (by exact H.giveRd m3 f9)).mono ?_); rintro e w3 ⟨rfl, hb⟩; dsimp only; first | exact hK _ hb | exact hK _ (Ext.refl _)) | (go_at_call 24; (with_reducible refine (h1 _ _ (by first | fail) (by first | fail) (H.fw_lt rfl HF.out)).mono ?_); rintro e w3 ⟨A3, c3, rfl, hb, s3, q3, q4⟩; dsimp only; first | exact hK _ hb | exact hK _ (Ext.refl _))))); simp only [List.getElem_toArray, List.getElem_cons_succ, List.getElem_cons_zero, Act.put, List.setIfInBounds_toArray, List.set_cons_succ, List.set_cons_zero]) | (refine treeC_skip ⟨_, H, by repeat first | exact .here | apply Suf.there⟩ rfl rfl ?_; simp only [List.getElem_toArray, List.getElem_cons_succ, List.getElem_cons_zero, Act.put, List.setIfInBounds_toArray, List.set_cons_succ, List.set_cons_zero])) | (guard_target =~ wpTreeC _ _ _ (Tr.both _ _) _ _ _; refine treeC_both ?_ ?_) | (guard_target =~ wpTreeC _ _ _ (Tr.e _ _) _ _ _; first | (refine treeC_one H rfl rfl (fun w3 H2 K hK => ?_); clear H; (try clear w2); (revert w3; intro w2 H); simp only [List.getElem_toArray, List.getElem_cons_succ, List.getElem_cons_zero]; first | ((first | fail); simp only [Act.put, List.setIfInBounds_toArray, List.set_cons_succ, List.set_cons_zero]) | (go_big_op; (skip))) | (refine treeC_one_skip (fun w3 hx => ⟨_, H.ext hx, by repeat first | exact .here | apply Suf.there⟩) rfl rfl (fun w3 hx => ?_); replace H := H.ext hx; clear hx; (try clear w2); revert w3; intro w2 H; simp only [List.getElem_toArray, List.getElem_cons_succ, List.getElem_cons_zero, Act.put, List.setIfInBounds_toArray, List.set_cons_succ, List.set_cons_zero])) | (guard_target =~ wpTreeC _ _ _ Tr.nil _ _ _; refine treeC_nil H (fun w3 H2 => ?_); clear H; (try clear w2); revert w3; intro w2 H)))
  generalize hN : L.length = n2 at hll ⊢
  have HN := Lib.hid hN
  go_loopg [6] n2 (fun k i wr => k ≤ n2 ∧ i = .int .i64 ((n2 - k : Nat) : Int) ∧ (⟨e0, !b0'⟩ : Hf) ∉ L.take (n2 - k) ∧ Own w.heap.size w wr [.rd A3 b3 o3 (hR L), .cells b4 [.int .i64 0, .bool false], .cells b2 [.int .i64 e0, .bool b0'], .cells b1 [.slice A n c, .slice A2 m c2], .rd A2 b9 o9 (eR es), .rd A b0 o0 (vR vs)])
  case atStart => exact ⟨Nat.le_refl _, by simp, by simp, H⟩
  case round =>
    clear H
    obtain ⟨hk, rfl, hno, H⟩ := hrel
    have HNO := Lib.hid hno
    clear hno
    by_cases hlt : 0 < gk
    · obtain ⟨j, hj⟩ : ∃ j, n2 - gk = j := ⟨_, rfl⟩
      have hjl : j < n2 := by omega
      rw [hj] at HNO ⊢
      obtain ⟨f, d, he⟩ := hf_get (by omega : j < L.length)
      obtain rfl := H.rdAddr m0 (hR_pos (by omega : j < L.length))
      have hp := h_at (A := some ⟨b3, o3, none⟩) (bb := b3) (off := o3) he
      have HJ := Lib.hid hj
      have HE := Lib.hid he
      clear hj he hN
      by_cases hd : (⟨f, d⟩ : Hf) = ⟨e0, !b0'⟩
      · have hq2 : (decide (f = e0) && decide (d = !b0')) = true := (hf_eq ⟨f, d⟩ ⟨e0, !b0'⟩).trans (decide_eq_true hd)
        have hx := HPR.out j (by rw [← hd]; exact HE.out)
        have HD := Lib.hid hd
        clear hd
        rw [HN.out] at hx
        by_cases hj0 : j = 0
        · subst hj0
          obtain ⟨p, rfl⟩ : ∃ p, n2 = p + 1 := ⟨n2 - 1, by omega⟩
          rw [show (0 + (p + 1) - 1) % (p + 1) = p by rw [show 0 + (p + 1) - 1 = p by omega]; exact Nat.mod_eq_of_lt (by omega)] at hx
          have hp2 := h_at (A := some ⟨b3, o3, none⟩) (bb := b3) (off := o3) hx
          clear hx
          rw [Nat.zero_mul, Nat.add_zero] at hp
          have hz0 : ((0 : Int) == 0) = true := rfl
          have hz1 : ((p + 1 : Nat) : Int) - 1 = (p : Int) := by omega
          go_wp2_with (first
            | (guard_target =~ Code.wp _ (Code.region 5 _ true) _ _ _; refine region_treeC0 5 (G := True) (.q 0 (.q 1 (.q 2 (.q 3 (.q 4 (.q 5 (.q 6 .nil))))))) (by kernel_rfl) (by intro c a d v w h; cases d <;> exact h) (by kernel_rfl) H ⟨trivial⟩ (fun _ w3 H2 => ?_); (clear H; (try clear w2); revert w3; intro w2 H))
            | (guard_target =~ wpList _ _ _ (_ :: _) _ _; (first | (guard_target =~ wpList _ _ _ (Oper.mk _ (.load _ _) _ _ _ _ :: _) _ _; refine BigFrame.wpList_want rfl (fun K hK => ?_); (refine o_loadN (cs := ?_) (r := ?_) rfl rfl H ?_ ?_ ?_ ?_ (hK _ _ ?_); rotate_left 2; (with_reducible assumption); (repeat first | exact .head _ | apply List.Mem.tail); (focus (intro _; simp [hq2]; done)); (focus (intro _; simp [hq2]; done))); clear hK K) | (guard_target =~ wpList _ _ _ (Oper.mk _ (.store _ _ _) _ _ _ _ :: _) _ _; refine BigFrame.wpList_want rfl (fun K hK => ?_); refine o_store (l' := ?_) (row := ?_) rfl rfl H rfl ?_ ?_ ?_ ?_ (fun w3 H2 => hK _ _ ?_); rotate_left 2; (exact r1); (focus (intro _; (simp [Act.eval, Value.cells, List.getD, hq2]; done))); (focus (simp [Act.eval, Value.cells, List.getD, hq2]; done)); (exact rfl); clear hK K; clear H; (try clear w2); revert w3; intro w2 H; (try simp [Act.eval, List.getD, hq2] at H); (try simp [Value.cells, setL, hq2] at H))); simp only [Act.put, List.setIfInBounds_toArray, List.set_cons_succ, List.set_cons_zero, hq2])
            | (guard_target =~ wpTreeC _ _ _ _ _ _ _; first | (guard_target =~ wpTreeC _ _ _ (Tr.e _ Tr.nil) _ _ _; refine treeC_last (by decide +kernel) H rfl rfl (fun w3 H2 K hK => ?_); clear H; (try clear w2); (revert w3; intro w2 H); simp only [List.getElem_toArray, List.getElem_cons_succ, List.getElem_cons_zero]; (first | fail); simp only [Act.put, List.setIfInBounds_toArray, List.set_cons_succ, List.set_cons_zero, hq2]) | (guard_target =~ wpTreeC _ _ _ (Tr.q _ _) _ _ _; first | (refine treeC_quiet ⟨_, H, by repeat first | exact .here | apply Suf.there⟩ rfl rfl rfl (fun K hK => ?_); simp only [List.getElem_toArray, List.getElem_cons_succ, List.getElem_cons_zero]; first | (guard_target =~ Oper.quiet _ (Oper.mk _ (.load _ _) _ _ _ _) _ _ _; (first | (refine q_loadN (cs := ?_) (r := ?_) rfl rfl ?_ ?_ ?_ ?_ (hK _ ?_); rotate_left 2; (with_reducible assumption); (repeat first | exact .head _ | apply List.Mem.tail); (focus (intro _; simp [hq2]; done)); (focus (intro _; simp [hq2]; done))) | (refine q_loadNC (row := ?_) rfl rfl ?_ ?_ ?_ (hK _ ?_); rotate_left 1; (repeat first | exact .head _ | apply List.Mem.tail); (focus (intro _; simp [hq2]; done)); (focus (intro _; simp [hq2]; done)))); clear hK K; simp only [Act.put, List.setIfInBounds_toArray, List.set_cons_succ, List.set_cons_zero, hq2]) | (go_big_quiet_op; (try refine ⟨_, fun _ _ => rfl, ?_⟩); refine hK _ ?_; clear hK K)) | (refine treeC_call (v := ?_) ⟨_, H, by repeat first | exact .here | apply Suf.there⟩ rfl rfl (fun w3 H K hK => ?_) ?_; rotate_left 1; (focus (simp only [List.getElem_toArray, List.getElem_cons_succ, List.getElem_cons_zero]; first | (go_big_op; first | exact hK _ (Ext.refl _) | (go_at_call 20; (with_reducible refine (rtwin_any _ _ _).mono ?_); rintro e w3 ⟨rfl, hb⟩; dsimp only; first | exact hK _ hb | exact hK _ (Ext.refl _))))); simp only [List.getElem_toArray, List.getElem_cons_succ, List.getElem_cons_zero, Act.put, List.setIfInBounds_toArray, List.set_cons_succ, List.set_cons_zero, hq2]) | (refine treeC_skip ⟨_, H, by repeat first | exact .here | apply Suf.there⟩ rfl rfl ?_; simp only [List.getElem_toArray, List.getElem_cons_succ, List.getElem_cons_zero, Act.put, List.setIfInBounds_toArray, List.set_cons_succ, List.set_cons_zero, hq2])) | (guard_target =~ wpTreeC _ _ _ (Tr.both _ _) _ _ _; refine treeC_both ?_ ?_) | (guard_target =~ wpTreeC _ _ _ (Tr.e _ _) _ _ _; first | (refine treeC_one H rfl rfl (fun w3 H2 K hK => ?_); clear H; (try clear w2); (revert w3; intro w2 H); simp only [List.getElem_toArray, List.getElem_cons_succ, List.getElem_cons_zero]; first | ((first | fail); simp only [Act.put, List.setIfInBounds_toArray, List.set_cons_succ, List.set_cons_zero, hq2]) | (go_big_op; (first | fail))) | (refine treeC_one_skip (fun w3 hx => ⟨_, H.ext hx, by repeat first | exact .here | apply Suf.there⟩) rfl rfl (fun w3 hx => ?_); replace H := H.ext hx; clear hx; (try clear w2); revert w3; intro w2 H; simp only [List.getElem_toArray, List.getElem_cons_succ, List.getElem_cons_zero, Act.put, List.setIfInBounds_toArray, List.set_cons_succ, List.set_cons_zero, hq2])) | (guard_target =~ wpTreeC _ _ _ Tr.nil _ _ _; refine treeC_nil H (fun w3 H2 => ?_); clear H; (try clear w2); revert w3; intro w2 H)))
          have hr := H.loadVarN (P := Try.prog) (ty := 36) (b := b4) m1 (by simp) (by simp)
          exact bodyPost_ret (v := hV ⟨ne, nb⟩) (by simp [results, Try.results31, asAddr, hr]) rfl ⟨rfl, H.below⟩
        · obtain ⟨p, rfl⟩ : ∃ p, j = p + 1 := ⟨j - 1, by omega⟩
          rw [show (p + 1 + n2 - 1) % n2 = p by rw [show p + 1 + n2 - 1 = p + n2 by omega, Nat.add_mod_right]; exact Nat.mod_eq_of_lt (by omega)] at hx
          have hp2 := h_at (A := some ⟨b3, o3, none⟩) (bb := b3) (off := o3) hx
          clear hx
          have hz0 : (((p + 1 : Nat) : Int) == 0) = false := by simpa using (by omega : ¬ ((p : Int) + 1 = 0))
          have hz1 : ((p + 1 : Nat) : Int) - 1 = (p : Int) := by omega
          go_wp2_with (first
            | (guard_target =~ Code.wp _ (Code.region 5 _ true) _ _ _; refine region_treeC0 5 (G := True) (.q 0 (.q 1 (.q 2 (.q 3 (.q 4 (.q 5 (.q 6 .nil))))))) (by kernel_rfl) (by intro c a d v w h; cases d <;> exact h) (by kernel_rfl) H ⟨trivial⟩ (fun _ w3 H2 => ?_); (clear H; (try clear w2); revert w3; intro w2 H))
            | (guard_target =~ wpList _ _ _ (_ :: _) _ _; (first | (guard_target =~ wpList _ _ _ (Oper.mk _ (.load _ _) _ _ _ _ :: _) _ _; refine BigFrame.wpList_want rfl (fun K hK => ?_); (refine o_loadN (cs := ?_) (r := ?_) rfl rfl H ?_ ?_ ?_ ?_ (hK _ _ ?_); rotate_left 2; (with_reducible assumption); (repeat first | exact .head _ | apply List.Mem.tail); (focus (intro _; simp [hq2]; done)); (focus (intro _; simp [hq2]; done))); clear hK K) | (guard_target =~ wpList _ _ _ (Oper.mk _ (.store _ _ _) _ _ _ _ :: _) _ _; refine BigFrame.wpList_want rfl (fun K hK => ?_); refine o_store (l' := ?_) (row := ?_) rfl rfl H rfl ?_ ?_ ?_ ?_ (fun w3 H2 => hK _ _ ?_); rotate_left 2; (exact r1); (focus (intro _; (simp [Act.eval, Value.cells, List.getD, hq2]; done))); (focus (simp [Act.eval, Value.cells, List.getD, hq2]; done)); (exact rfl); clear hK K; clear H; (try clear w2); revert w3; intro w2 H; (try simp [Act.eval, List.getD, hq2] at H); (try simp [Value.cells, setL, hq2] at H))); simp only [Act.put, List.setIfInBounds_toArray, List.set_cons_succ, List.set_cons_zero, hq2])
            | (guard_target =~ wpTreeC _ _ _ _ _ _ _; first | (guard_target =~ wpTreeC _ _ _ (Tr.e _ Tr.nil) _ _ _; refine treeC_last (by decide +kernel) H rfl rfl (fun w3 H2 K hK => ?_); clear H; (try clear w2); (revert w3; intro w2 H); simp only [List.getElem_toArray, List.getElem_cons_succ, List.getElem_cons_zero]; (first | fail); simp only [Act.put, List.setIfInBounds_toArray, List.set_cons_succ, List.set_cons_zero, hq2]) | (guard_target =~ wpTreeC _ _ _ (Tr.q _ _) _ _ _; first | (refine treeC_quiet ⟨_, H, by repeat first | exact .here | apply Suf.there⟩ rfl rfl rfl (fun K hK => ?_); simp only [List.getElem_toArray, List.getElem_cons_succ, List.getElem_cons_zero]; first | (guard_target =~ Oper.quiet _ (Oper.mk _ (.load _ _) _ _ _ _) _ _ _; (first | (refine q_loadN (cs := ?_) (r := ?_) rfl rfl ?_ ?_ ?_ ?_ (hK _ ?_); rotate_left 2; (with_reducible assumption); (repeat first | exact .head _ | apply List.Mem.tail); (focus (intro _; simp [hq2]; done)); (focus (intro _; simp [hq2]; done))) | (refine q_loadNC (row := ?_) rfl rfl ?_ ?_ ?_ (hK _ ?_); rotate_left 1; (repeat first | exact .head _ | apply List.Mem.tail); (focus (intro _; simp [hq2]; done)); (focus (intro _; simp [hq2]; done)))); clear hK K; simp only [Act.put, List.setIfInBounds_toArray, List.set_cons_succ, List.set_cons_zero, hq2]) | (go_big_quiet_op; (try refine ⟨_, fun _ _ => rfl, ?_⟩); refine hK _ ?_; clear hK K)) | (refine treeC_call (v := ?_) ⟨_, H, by repeat first | exact .here | apply Suf.there⟩ rfl rfl (fun w3 H K hK => ?_) ?_; rotate_left 1; (focus (simp only [List.getElem_toArray, List.getElem_cons_succ, List.getElem_cons_zero]; first | (go_big_op; first | exact hK _ (Ext.refl _) | (go_at_call 20; (with_reducible refine (rtwin_any _ _ _).mono ?_); rintro e w3 ⟨rfl, hb⟩; dsimp only; first | exact hK _ hb | exact hK _ (Ext.refl _))))); simp only [List.getElem_toArray, List.getElem_cons_succ, List.getElem_cons_zero, Act.put, List.setIfInBounds_toArray, List.set_cons_succ, List.set_cons_zero, hq2]) | (refine treeC_skip ⟨_, H, by repeat first | exact .here | apply Suf.there⟩ rfl rfl ?_; simp only [List.getElem_toArray, List.getElem_cons_succ, List.getElem_cons_zero, Act.put, List.setIfInBounds_toArray, List.set_cons_succ, List.set_cons_zero, hq2])) | (guard_target =~ wpTreeC _ _ _ (Tr.both _ _) _ _ _; refine treeC_both ?_ ?_) | (guard_target =~ wpTreeC _ _ _ (Tr.e _ _) _ _ _; first | (refine treeC_one H rfl rfl (fun w3 H2 K hK => ?_); clear H; (try clear w2); (revert w3; intro w2 H); simp only [List.getElem_toArray, List.getElem_cons_succ, List.getElem_cons_zero]; first | ((first | fail); simp only [Act.put, List.setIfInBounds_toArray, List.set_cons_succ, List.set_cons_zero, hq2]) | (go_big_op; (first | fail))) | (refine treeC_one_skip (fun w3 hx => ⟨_, H.ext hx, by repeat first | exact .here | apply Suf.there⟩) rfl rfl (fun w3 hx => ?_); replace H := H.ext hx; clear hx; (try clear w2); revert w3; intro w2 H; simp only [List.getElem_toArray, List.getElem_cons_succ, List.getElem_cons_zero, Act.put, List.setIfInBounds_toArray, List.set_cons_succ, List.set_cons_zero, hq2])) | (guard_target =~ wpTreeC _ _ _ Tr.nil _ _ _; refine treeC_nil H (fun w3 H2 => ?_); clear H; (try clear w2); revert w3; intro w2 H)))
          have hr := H.loadVarN (P := Try.prog) (ty := 36) (b := b4) m1 (by simp) (by simp)
          exact bodyPost_ret (v := hV ⟨ne, nb⟩) (by simp [results, Try.results31, asAddr, hr]) rfl ⟨rfl, H.below⟩
      · have hq2 : (decide (f = e0) && decide (d = !b0')) = false := (hf_eq ⟨f, d⟩ ⟨e0, !b0'⟩).trans (decide_eq_false hd)
        have HD := Lib.hid hd
        clear hd
        go_wp2_with (first
          | (guard_target =~ Code.wp _ (Code.region 5 _ true) _ _ _; refine region_treeC0 5 (G := True) (.q 0 (.q 1 (.q 2 (.q 3 (.q 4 (.q 5 (.q 6 .nil))))))) (by kernel_rfl) (by intro c a d v w h; cases d <;> exact h) (by kernel_rfl) H ⟨trivial⟩ (fun _ w3 H2 => ?_); (clear H; (try clear w2); revert w3; intro w2 H))
          | (guard_target =~ wpTreeC _ _ _ _ _ _ _; first | (guard_target =~ wpTreeC _ _ _ (Tr.e _ Tr.nil) _ _ _; refine treeC_last (by decide +kernel) H rfl rfl (fun w3 H2 K hK => ?_); clear H; (try clear w2); (revert w3; intro w2 H); simp only [List.getElem_toArray, List.getElem_cons_succ, List.getElem_cons_zero]; (first | fail); simp only [Act.put, List.setIfInBounds_toArray, List.set_cons_succ, List.set_cons_zero, hq2]) | (guard_target =~ wpTreeC _ _ _ (Tr.q _ _) _ _ _; first | (refine treeC_quiet ⟨_, H, by repeat first | exact .here | apply Suf.there⟩ rfl rfl rfl (fun K hK => ?_); simp only [List.getElem_toArray, List.getElem_cons_succ, List.getElem_cons_zero]; first | (guard_target =~ Oper.quiet _ (Oper.mk _ (.load _ _) _ _ _ _) _ _ _; (first | (refine q_loadN (cs := ?_) (r := ?_) rfl rfl ?_ ?_ ?_ ?_ (hK _ ?_); rotate_left 2; (with_reducible assumption); (repeat first | exact .head _ | apply List.Mem.tail); (focus (intro _; simp [hq2]; done)); (focus (intro _; simp [hq2]; done))) | (refine q_loadNC (row := ?_) rfl rfl ?_ ?_ ?_ (hK _ ?_); rotate_left 1; (repeat first | exact .head _ | apply List.Mem.tail); (focus (intro _; simp [hq2]; done)); (focus (intro _; simp [hq2]; done)))); clear hK K; simp only [Act.put, List.setIfInBounds_toArray, List.set_cons_succ, List.set_cons_zero, hq2]) | (go_big_quiet_op; (try refine ⟨_, fun _ _ => rfl, ?_⟩); refine hK _ ?_; clear hK K)) | (refine treeC_call (v := ?_) ⟨_, H, by repeat first | exact .here | apply Suf.there⟩ rfl rfl (fun w3 H K hK => ?_) ?_; rotate_left 1; (focus (simp only [List.getElem_toArray, List.getElem_cons_succ, List.getElem_cons_zero]; first | (go_big_op; first | exact hK _ (Ext.refl _) | (go_at_call 20; (with_reducible refine (rtwin_any _ _ _).mono ?_); rintro e w3 ⟨rfl, hb⟩; dsimp only; first | exact hK _ hb | exact hK _ (Ext.refl _))))); simp only [List.getElem_toArray, List.getElem_cons_succ, List.getElem_cons_zero, Act.put, List.setIfInBounds_toArray, List.set_cons_succ, List.set_cons_zero, hq2]) | (refine treeC_skip ⟨_, H, by repeat first | exact .here | apply Suf.there⟩ rfl rfl ?_; simp only [List.getElem_toArray, List.getElem_cons_succ, List.getElem_cons_zero, Act.put, List.setIfInBounds_toArray, List.set_cons_succ, List.set_cons_zero, hq2])) | (guard_target =~ wpTreeC _ _ _ (Tr.both _ _) _ _ _; refine treeC_both ?_ ?_) | (guard_target =~ wpTreeC _ _ _ (Tr.e _ _) _ _ _; first | (refine treeC_one H rfl rfl (fun w3 H2 K hK => ?_); clear H; (try clear w2); (revert w3; intro w2 H); simp only [List.getElem_toArray, List.getElem_cons_succ, List.getElem_cons_zero]; first | ((first | fail); simp only [Act.put, List.setIfInBounds_toArray, List.set_cons_succ, List.set_cons_zero, hq2]) | (go_big_op; (first | fail))) | (refine treeC_one_skip (fun w3 hx => ⟨_, H.ext hx, by repeat first | exact .here | apply Suf.there⟩) rfl rfl (fun w3 hx => ?_); replace H := H.ext hx; clear hx; (try clear w2); revert w3; intro w2 H; simp only [List.getElem_toArray, List.getElem_cons_succ, List.getElem_cons_zero, Act.put, List.setIfInBounds_toArray, List.set_cons_succ, List.set_cons_zero, hq2])) | (guard_target =~ wpTreeC _ _ _ Tr.nil _ _ _; refine treeC_nil H (fun w3 H2 => ?_); clear H; (try clear w2); revert w3; intro w2 H)))
        go_roundg (gk - 1)
        case rel => exact ⟨by omega, by have := HJ.out; congr 1; omega, by rw [show n2 - (gk - 1) = j + 1 by have := HJ.out; omega]; exact has_step HE.out HNO.out HD.out, H⟩
        case measure => omega
    · obtain rfl : gk = 0 := by omega
      exact absurd HTW.out (by have := HNO.out; rwa [Nat.sub_zero, List.take_of_length_le (by have := HN.out; omega)] at this)
end Go.Proofs.Ytlhmjhildlnokaa

/-
  Resources: a slice grows by what stands in another slice of the call's own. Nothing of the program stands here.
-/
namespace Go.Proofs.Ytlhmjhildlnokaa
set_option linter.unusedVariables false
open Go.RowKit
variable {P : Program} {B : Nat} {w0 w w' : World} {l l' : List Res} {o : Oper} {a : Act} {Q : Exit → Act → World → Prop}
/-- A slice of the call's own, as it is handed to a function that only reads. -/
theorem Own.slGrow {e size n c : Nat} {A : Option Addr} {xs : List Value} (H : Own B w0 w l) (hm : Res.grow e size (.slice A n c) n xs ∈ l) : Sl (fun _ => False) w A xs := by
  obtain ⟨A', cap, h, _, _, hs⟩ := H.giveGrow hm (F := fun _ => False) (fun _ h => h.elim)
  injection h with h1 h2 h3
  rw [h1]; exact hs
theorem o_appendS {K : Act → World → Prop} {s x' : Operand} {t e : TypeId} {z : Value} {size bytes : Nat} {v : Value} {n m c : Nat} {A : Option Addr} {xs news : List Value} {l' : Value → List Res} (hinfo : (P.info? e).map (fun i => (i.zero, i.size, i.bytes)) = some (some z, size, bytes))
    (ho : o.op = .call { callee := .builtin .append, args := #[s, x'], argTypes := #[t, t] }) (hs : a.eval s = v) (hx : a.eval x' = .slice A m c) (H : Own B w0 w l)
    (hSl : Sl (fun _ => False) w A news) (hl : news.length = m * size)
    (hrep : ∀ v', Rep (.grow e size v n xs) (.grow e size v' (n + m) (xs ++ news)) l (l' v')) (ht : P.underlying t = some (.slice e)) (hzs : z.cells.size = size) (hsz : 0 < size) (h1 : news.all (·.oneCell') = true)
    (h63 : n + m ≤ maxLen) (hbytes : (n + m) * bytes ≤ 140737488355328)
    (hk : ∀ v' w', Own B w0 w' (l' v') → (v' = .slice none 0 0 ↔ v = .slice none 0 0 ∧ m = 0) → K (a.put o.dst v') w') : o.wp P a w K Q := by
  cases hi : P.info? e with
  | none => simp [hi] at hinfo
  | some i =>
    simp only [hi, Option.map_some, Option.some.injEq, Prod.mk.injEq] at hinfo
    obtain ⟨hz, rfl, rfl⟩ := hinfo
    have hg := H.holds _ (hrep v).mem
    have hgl := H.lt _ (hrep v).mem
    obtain ⟨bb, off, hr1, hr2⟩ := hSl
    have hr : (0 < news.length → A = some ⟨bb, off, none⟩) ∧ ∀ j v, news[j]? = some v → w.cell? ⟨bb, off + j, none⟩ = some v := ⟨fun hp => (hr1 hp).1, hr2⟩
    have h1' : ∀ u ∈ news, u.oneCell' = true := fun u hu => List.all_eq_true.1 h1 u hu
    have key : ∃ v' w', (Builtin.append_ #[t, t] o.type #[v, .slice A m c]).run P w = .ok v' w' ∧ w'.ownsRow 0 e i.size v' (n + m) (xs ++ news) ∧ (∀ k, k < w.heap.size → v.ownBlock ≠ some k → w'.heap[k]? = w.heap[k]?) ∧ Below B w w' ∧
        (v' = .slice none 0 0 ↔ v = .slice none 0 0 ∧ m = 0) ∧ ∀ k, v'.ownBlock = some k → v.ownBlock = some k ∨ w.heap.size ≤ k := by
      have hold : ∀ k, v.ownBlock = some k → k < w.heap.size ∧ B ≤ k := fun k hk => ⟨(hgl k hk).1, (hgl k hk).2 rfl⟩
      cases A with
      | none =>
        have h0 : m = 0 := by
          by_cases hp : 0 < news.length
          · have := hr.1 hp; cases this
          · have : m * i.size = 0 := by omega
            rcases Nat.mul_eq_zero.1 this with h | h
            · exact h
            · omega
        subst h0
        have hn : news = [] := List.eq_nil_of_length_eq_zero (by omega)
        subst hn
        refine ⟨v, w, run_append_none ht hi hg c, by rw [Nat.add_zero, List.append_nil]; exact hg, fun _ _ _ => rfl, Below.refl _ _, by simp, fun k hk => .inl hk⟩
      | some ad =>
        have hnews : ∀ j u, news[j]? = some u → w.cell? (ad.add j) = some u := fun j u hu => by
          have hp : 0 < news.length := Nat.lt_of_le_of_lt (Nat.zero_le _) (List.getElem?_eq_some_iff.1 hu).1
          have := hr.1 hp
          injection this with this
          rw [this, Addr.add_mid]
          exact hr.2 j u hu
        obtain ⟨v', w', hrun, hown, hgrow, hnil⟩ := run_append_own (P := P) w 0 t o.type e i z _ _ ht hi hz rfl rfl hzs hsz v n xs hg ad m c news hl hnews h1' h63 hbytes (Nat.zero_le _)
        have hplace := append_place ht hi hz hg hl hnews h1' h63 hbytes hrun
        exact ⟨v', w', hrun, hown, fun k hk hne => hgrow.block k hk (fun e => hne e.symm), (.mk6 hgrow.os hgrow.tape hgrow.output hgrow.size (fun k hk' => hgrow.block k (Nat.lt_of_lt_of_le hk' H.base) (fun e => by have := (hold k e.symm).2; omega)) (append_drawn ht hi hz hg hl hnews h1' h63 hbytes hrun)), hnil, hplace⟩
    obtain ⟨v', w', hrun, hown, hblk, hbel, hnil, hplace⟩ := key
    unfold Oper.wp execOp
    simp only [ho, resolve, invoke, builtin, Sem.run_bind, Sem.run_pure, Result.andThen_ok, List.map_toArray, List.map_cons, List.map_nil, hs, hx, hrun]
    refine hk v' w' ?_ hnil
    exact H.change (hrep v') rfl rfl hbel (fun k hk' hne => hblk k hk' hne) hown (fun k hk' => (hown.lt k hk').2) hplace
end Go.Proofs.Ytlhmjhildlnokaa

/-
  The walk of the document's Rings.
-/
namespace Go.Proofs.Ytlhmjhildlnokaa
set_option linter.unusedVariables false
set_option linter.unusedSimpArgs false
open Go.RowKit

structure KInv (nx : Hf → Hf) (S : List Hf) (h0 : Hf) (r : List Hf) (h : Hf) : Prop where
  way : Way nx S h0 r h
  ring : ringF nx (S.length - r.length) r h = ringF nx S.length [] h0
theorem kinv_step {nx : Hf → Hf} {S : List Hf} (O : OneOne nx S) {h0 h : Hf} {r : List Hf} (I : KInv nx S h0 r h) (hq : r.length < S.length) (hn : h ∉ r) : KInv nx S h0 (r ++ [h]) (nx h) := by
  refine ⟨way_step O I.way hn, ?_⟩
  rw [← I.ring]
  obtain ⟨m, hm⟩ : ∃ m, S.length - r.length = m + 1 := ⟨S.length - r.length - 1, by omega⟩
  rw [hm, show S.length - (r ++ [h]).length = m by rw [List.length_append]; simp; omega]
  conv => rhs; unfold ringF
  rw [if_neg hn]
theorem kinv_end {nx : Hf → Hf} {S : List Hf} {h0 h : Hf} {r : List Hf} (I : KInv nx S h0 r h) (hq : S.length ≤ r.length ∨ h ∈ r) : r = ringF nx S.length [] h0 := by
  rw [← I.ring]
  cases hm : S.length - r.length with
  | zero => rfl
  | succ m =>
    rcases hq with hq | hq
    · omega
    · unfold ringF; rw [if_pos hq]
def RrRel (vs : List Vt) (es : List Eg) (N : Nat) (B : Nat) (w0 : World) (l : List Res) (k : Nat) (i out met : Value) (wr : World) : Prop :=
  ∃ os : List RgE, os.map (·.l) = ringsL (nextZ vs es) (halves es) ((halves es).take (N - k)) [] ∧ k ≤ N ∧ i = .int .i64 ((N - k : Nat) : Int) ∧
    Own B w0 wr (.grow 34 1 out os.length (os.map (·.s)) :: .grow 36 2 met (os.map (·.l)).flatten.length (hR (os.map (·.l)).flatten) :: (l ++ os.map rB))
theorem hR_app (l m : List Hf) : hR (l ++ m) = hR l ++ hR m := by simp [hR]
theorem hR_one (l : List Hf) : (hR l).all (·.oneCell') = true := by
  rw [List.all_eq_true]; intro v hv
  obtain ⟨a, _, ha⟩ := List.mem_flatMap.1 hv
  simp only [h2, List.mem_cons, List.not_mem_nil, or_false] at ha
  rcases ha with rfl | rfl <;> rfl
theorem rr_len {r : List Hf} {X : List Value} {q : Nat} (h1 : hR r = X) (h2 : q = r.length) : X.length = q * 2 := by rw [← h1, hR_len, h2]
theorem rr_one {r : List Hf} {X : List Value} (h1 : hR r = X) : X.all (·.oneCell') = true := by rw [← h1]; exact hR_one r
set_option maxRecDepth 100000 in
set_option maxHeartbeats 16000000 in
theorem rrings_any (vs : List Vt) (es : List Eg) (A A2 : Option Addr) (n m c c2 : Nat) (F : Nat → Prop) (w : World) (hR0 : RightP vs es) (hn : n = vs.length) (hm : m = es.length) (hs : Sl F w A (vR vs)) (hs2 : Sl F w A2 (eR es)) (hF : ∀ k, F k → k < w.heap.size) :
    Calls Try.prog 17 #[.agg #[.slice A n c, .slice A2 m c2]] w (RetR F w (ringsZ vs es)) := by
  obtain ⟨b0, o0, H1, f0⟩ := (Own.start w).addSl (hs.ro (by rfl))
  obtain ⟨b9, o9, H, f9⟩ := H1.addSl (hs2.ro (by rfl))
  clear hs hs2 H1
  have h1 := fun F w h1 hF => halves_any vs es A A2 n m c c2 F w hm h1 hF (by have := hR0.few.2; omega)
  have h2' := fun F w e0 b0' h1 h2 hF hh => rnext_any vs es A A2 n m c c2 F e0 b0' w hR0 hn hm h1 h2 hF hh
  have hfw := few_halves hR0
  have HR := Lib.hid hR0
  have HF := Lib.hid hF
  clear hn hm hR0 hF
  go_enter Try.func17, Try.ntmps17
  have tk0 : True := trivial
  go_wp2_with (first
    | (go_at_call 53; (with_reducible refine (h1 _ _ (by exact H.giveRd m1 f9) (H.fw_lt rfl HF.out)).mono ?_); rintro e w3 ⟨A3, c3, rfl, hb, s3, q3, q4⟩; replace H := H.ext hb; clear hb; obtain ⟨b3, o3, H4, f3⟩ := H.addSl s3; clear H s3; have H := H4; clear H4; dsimp only; (skip))
    | (guard_target =~ wpList _ _ _ (_ :: _) _ _; (first | (guard_target =~ wpList _ _ _ (Oper.mk _ (.load _ _) _ _ _ _ :: _) _ _; refine BigFrame.wpList_want rfl (fun K hK => ?_); (refine o_loadNC (row := ?_) rfl rfl H ?_ ?_ ?_ (hK _ _ ?_); rotate_left 1; (repeat first | exact .head _ | apply List.Mem.tail); (focus (intro _; simp; done)); (focus (intro _; simp; done))); clear hK K) | ((guard_target =~ wpList _ _ _ (Oper.mk _ (.box _ _) _ _ _ _ :: _) _ _; refine BigFrame.wpList_want rfl (fun K hK => ?_); refine o_box rfl H rfl (fun w3 b2 he H2 => hK _ _ ?_)); clear hK K he; clear H; (try clear w2); revert w3; intro w2 H; simp [Act.eval, Value.cells, setL, List.getD] at H; (clear tk0; rename Nat => b1))); simp only [Act.put, List.setIfInBounds_toArray, List.set_cons_succ, List.set_cons_zero]))
  generalize hN : (halves es).length = N at hfw ⊢
  have HN := Lib.hid hN
  clear hN
  have H := ((H.grow_nil 36 2).grow_nil 34 1)
  go_loopg [6, 3, 4] N (RrRel vs es N w.heap.size w [.rd A3 b3 o3 (hR (halves es)), .cells b1 [.slice A n c, .slice A2 m c2], .rd A2 b9 o9 (eR es), .rd A b0 o0 (vR vs)])
  case atStart => exact ⟨[], by rw [Nat.sub_self]; rfl, Nat.le_refl _, by simp, H⟩
  case round =>
    clear H
    obtain ⟨os, hos, hk, rfl, H⟩ := hrel
    simp only [List.cons_append, List.nil_append] at H
    by_cases hlt : 0 < gk
    · obtain ⟨j, hj⟩ : ∃ j, N - gk = j := ⟨_, rfl⟩
      have hjl : j < N := by omega
      rw [hj] at hos ⊢
      obtain ⟨e, b, he⟩ := hf_get (by have := HN.out; omega : j < (halves es).length)
      obtain rfl := H.rdAddr m2 (hR_pos (by have := HN.out; omega : j < (halves es).length))
      have hp := h_at (A := some ⟨b3, o3, none⟩) (bb := b3) (off := o3) he
      have hmem : (⟨e, b⟩ : Hf) ∈ halves es := List.mem_of_getElem? he
      have hRs := rings_of (next_one HR.out) ((halves es).take j) fun h hh => List.mem_of_mem_take hh
      have hst := ringsL_step (nx := nextZ vs es) (S := halves es) ((halves es).take j) ⟨e, b⟩ []
      rw [← hos] at hRs hst
      rw [show (halves es).take j ++ [⟨e, b⟩] = (halves es).take (j + 1) by rw [List.take_add_one, he]; rfl] at hst
      have hfl : (os.map (·.l)).flatten.length ≤ 2048 := by
        have := nodup_len (S := halves es) hRs.nodup fun x hx => by
          obtain ⟨r, hr, hx⟩ := List.mem_flatten.1 hx
          obtain ⟨h, P⟩ := hRs.each r hr
          exact P.sub x hx
        have := HN.out
        omega
      have hol : os.length ≤ 2048 := by have := rings_few hRs; have := HN.out; simp at *; omega
      have HST := Lib.hid hst
      have HMEM := Lib.hid hmem
      have HJ := Lib.hid hj
      have HOM := Lib.hid (rfl : os.length = os.length)
      obtain ⟨Am, cm, rfl⟩ := H.growForm m1
      obtain ⟨vh, hvh⟩ : ∃ v, decide ((⟨e, b⟩ : Hf) ∈ (os.map (·.l)).flatten) = v := ⟨_, rfl⟩
      have hH1 := fun w h => has_any (os.map (·.l)).flatten Am (os.map (·.l)).flatten.length cm (fun _ => False) e b w rfl h (by omega)
      rw [hvh] at hH1
      have HVH := Lib.hid hvh
      clear he hos hst hmem hj hRs HOM hvh
      generalize hol2 : os.length = ol at H hol
      generalize hfl2 : (os.map (·.l)).flatten.length = fn at H hH1 hfl ⊢
      have HOL := Lib.hid hol2
      have HFL := Lib.hid hfl2
      clear hol2 hfl2
      cases vh
      · have ⟨gkA, hgA⟩ : ∃ g, g = gk := ⟨_, rfl⟩
        have tk0 : True := trivial
        go_wp2_with (first
          | (go_at_call 34; (with_reducible refine (hH1 _ (H.slGrow m1)).mono ?_); rintro e w3 ⟨rfl, hb⟩; replace H := H.ext hb; clear hb; dsimp only; (skip))
          | (guard_target =~ wpList _ _ _ (_ :: _) _ _; (first | (guard_target =~ wpList _ _ _ (Oper.mk _ (.load _ _) _ _ _ _ :: _) _ _; refine BigFrame.wpList_want rfl (fun K hK => ?_); (refine o_loadN (cs := ?_) (r := ?_) rfl rfl H ?_ ?_ ?_ ?_ (hK _ _ ?_); rotate_left 2; (with_reducible assumption); (repeat first | exact .head _ | apply List.Mem.tail); (focus (intro _; simp; done)); (focus (intro _; simp; done))); clear hK K) | (guard_target =~ wpList _ _ _ (Oper.mk _ (.store _ _ _) _ _ _ _ :: _) _ _; refine BigFrame.wpList_want rfl (fun K hK => ?_); refine o_store (l' := ?_) (row := ?_) rfl rfl H rfl ?_ ?_ ?_ ?_ (fun w3 H2 => hK _ _ ?_); rotate_left 2; (exact r0); (focus (intro _; simp [Act.eval, Value.cells]; done)); (focus (simp [Act.eval, Value.cells]; done)); (exact rfl); clear hK K; clear H; (try clear w2); revert w3; intro w2 H; simp [Act.eval, Value.cells, setL, List.getD] at H) | ((guard_target =~ wpList _ _ _ (Oper.mk _ (.alloc _) _ _ _ _ :: _) _ _; refine BigFrame.wpList_want rfl (fun K hK => ?_); refine o_alloc (z := ?_) rfl ?_ H rfl (fun w3 b2 he H2 => hK _ _ ?_); rotate_left 1; (focus (intro _; simp; with_reducible exact rfl))); clear hK K he; clear H; (try clear w2); revert w3; intro w2 H; simp [Act.eval, Value.cells, setL, List.getD] at H; (clear tk0; rename Nat => bh))); simp only [Act.put, List.setIfInBounds_toArray, List.set_cons_succ, List.set_cons_zero]))
        clear hH1
        have H := (H.grow_nil 36 2)
        generalize hom : os.map (·.s) = om at H
        have HOM := Lib.hid hom
        generalize hof : (os.map (·.l)).flatten = fl at H
        have HOF := Lib.hid hof
        clear hom hof
        go_loopg [7, 9] N (fun k v i wr => ∃ r h q, q = r.length ∧ q + k = N ∧ KInv (nextZ vs es) (halves es) ⟨e, b⟩ r h ∧ i = .int .i64 (q : Int) ∧ Own w.heap.size w wr (.grow 36 2 v q (hR r) :: .cells bh [.int .i64 h.e, .bool h.b] :: .grow 34 1 u3 ol om :: .grow 36 2 (.slice Am fn cm) fn (hR fl) :: .rd (some ⟨b3, o3, none⟩) b3 o3 (hR (halves es)) :: .cells b1 [.slice A n c, .slice A2 m c2] :: .rd A2 b9 o9 (eR es) :: .rd A b0 o0 (vR vs) :: os.map rB))
        case atStart => exact ⟨[], ⟨e, b⟩, 0, rfl, by omega, ⟨way_start HMEM.out, rfl⟩, by simp, H⟩
        case round =>
          clear H
          obtain ⟨r, ⟨f, d⟩, q, hq, hqk, hI, rfl, H⟩ := hrel
          have HI := Lib.hid hI
          have hqN : q ≤ N := by omega
          have HQ := Lib.hid hq
          have hmm := hI.way.now
          obtain ⟨Ar, cr, rfl⟩ := H.growForm m0
          have hH2 := fun w h => has_any r Ar q cr (fun _ => False) f d w hq h (by omega)
          obtain ⟨v2, hv2⟩ : ∃ v, decide ((⟨f, d⟩ : Hf) ∈ r) = v := ⟨_, rfl⟩
          rw [hv2] at hH2
          have HV2 := Lib.hid hv2
          have hnx := fun F w h1 h2 hF => h2' F w f d h1 h2 hF hmm
          generalize hne : nextZ vs es ⟨f, d⟩ = h' at hnx
          obtain ⟨e', b'⟩ := h'
          have HNE := Lib.hid hne
          generalize hX : hR r = X at H hH2
          have HX := Lib.hid hX
          clear hI hq hmm hv2 hne hX
          by_cases hgo : q < N ∧ v2 = false
          · obtain ⟨hqN2, rfl⟩ := hgo
            have tk0 : True := trivial
            go_wp2_with (first
              | (go_at_call 34; (with_reducible refine (hH2 _ (H.slGrow m0)).mono ?_); rintro e w3 ⟨rfl, hb⟩; replace H := H.ext hb; clear hb; dsimp only; (skip))
              | (go_at_call 31; (with_reducible refine (hnx _ _ (by exact H.giveRd m8 f0) (by exact H.giveRd m7 f9) (H.fw_lt rfl HF.out)).mono ?_); rintro e w3 ⟨rfl, hb⟩; replace H := H.ext hb; clear hb; dsimp only; (skip))
              | (guard_target =~ wpList _ _ _ (_ :: _) _ _; (first | (guard_target =~ wpList _ _ _ (Oper.mk _ (.call { callee := .builtin .append, args := _, argTypes := _ }) _ _ _ _ :: _) _ _; refine BigFrame.wpList_want rfl (fun K hK => ?_); refine o_append (row := ?_) (n := ?_) (xs := ?_) (l' := ?_) infoHf rfl rfl rfl H ?_ rfl ?_ ?_ (by kernel_rfl) rfl (by decide) ?_ ?_ ?_ (fun v2 w3 H2 hn => hK _ _ ?_); rotate_left 4; (repeat first | exact .head _ | apply List.Mem.tail); (focus (simp; done)); (focus (intro _; (exact r1))); exact rfl; exact (by unfold maxLen; omega); exact (by omega); clear hK K hn; clear H; (try clear w2); revert w3; intro w2 H; simp only [List.take_succ_cons, List.take_zero, Nat.one_mul] at H; (obtain ⟨A7, c7, rfl⟩ := H.growForm (v := v2) (by repeat first | exact .head _ | apply List.Mem.tail))) | (guard_target =~ wpList _ _ _ (Oper.mk _ (.load _ _) _ _ _ _ :: _) _ _; refine BigFrame.wpList_want rfl (fun K hK => ?_); (refine o_loadNC (row := ?_) rfl rfl H ?_ ?_ ?_ (hK _ _ ?_); rotate_left 1; (repeat first | exact .head _ | apply List.Mem.tail); (focus (intro _; simp [hV]; done)); (focus (intro _; simp [hV]; done))); clear hK K) | (guard_target =~ wpList _ _ _ (Oper.mk _ (.store _ _ _) _ _ _ _ :: _) _ _; refine BigFrame.wpList_want rfl (fun K hK => ?_); refine o_store (l' := ?_) (row := ?_) rfl rfl H rfl ?_ ?_ ?_ ?_ (fun w3 H2 => hK _ _ ?_); rotate_left 2; (exact r2); (focus (intro _; (simp [Act.eval, Value.cells, List.getD, hV]; done))); (focus (simp [Act.eval, Value.cells, List.getD, hV]; done)); (exact rfl); clear hK K; clear H; (try clear w2); revert w3; intro w2 H; (try simp [Act.eval, List.getD, hV] at H); (try simp [Value.cells, setL, hV] at H)) | ((guard_target =~ wpList _ _ _ (Oper.mk _ (.buildSlice _ _ _) _ _ _ _ :: _) _ _; refine BigFrame.wpList_want rfl (fun K hK => ?_); refine o_buildSlice (C := ?_) (E := ?_) rfl rfl H ?_ rfl (fun w3 b2 he H2 => hK _ _ ?_); rotate_left 2; (focus (intro _; simp [go_sem, Instr.buildSlice]; with_reducible exact rfl))); clear hK K he; clear H; (try clear w2); revert w3; intro w2 H; (try simp [Act.eval, List.getD, hV] at H); (try simp [Value.cells, setL, hV] at H); (clear tk0; rename Nat => b4))); simp only [Act.put, List.setIfInBounds_toArray, List.set_cons_succ, List.set_cons_zero, hV]))
            go_roundg (gk - 1)
            case rel =>
              have hs := kinv_step (next_one HR.out) HI.out (by have := HQ.out; have := HN.out; omega) (by simpa using HV2.out)
              rw [HNE.out] at hs
              refine ⟨r ++ [⟨f, d⟩], ⟨e', b'⟩, q + 1, by rw [HQ.out]; simp, by omega, hs, by simp, ?_⟩
              have H4 := H.tail
              rw [← HX.out, ← hR_add1] at H4
              exact H4
            case measure => omega
          · have hnz : (decide (q < N) && !v2) = false := by
              rw [Bool.and_eq_false_iff]
              by_cases h : q < N
              · right
                cases v2
                · exact absurd ⟨h, rfl⟩ hgo
                · rfl
              · left; simpa using h
            have hend := kinv_end (S := halves es) HI.out (by
              have := HQ.out; have := HN.out
              by_cases h : q < N
              · right
                cases v2
                · exact absurd ⟨h, rfl⟩ hgo
                · simpa using HV2.out
              · left; omega)
            have HEND := Lib.hid hend
            clear hend
            by_cases hqN2 : q < N
            · obtain rfl : v2 = true := by
                cases v2
                · exact absurd ⟨hqN2, rfl⟩ hgo
                · rfl
              clear hgo hnz
              have tk0 : True := trivial
              go_wp2_with (first
                | (go_at_call 34; (with_reducible refine (hH2 _ (H.slGrow m0)).mono ?_); rintro e w3 ⟨rfl, hb⟩; replace H := H.ext hb; clear hb; dsimp only; (skip))
                | (guard_target =~ wpList _ _ _ (_ :: _) _ _; (first | (guard_target =~ wpList _ _ _ (Oper.mk _ (.call { callee := .builtin .append, args := _, argTypes := _ }) _ _ _ _ :: _) _ _; refine BigFrame.wpList_want rfl (fun K hK => ?_); refine o_appendS (news := ?_) (n := ?_) (xs := ?_) (l' := ?_) infoHf rfl rfl rfl H ?_ ?_ ?_ (by kernel_rfl) rfl (by decide) ?_ ?_ ?_ (fun v2 w3 H2 hn => hK _ _ ?_); rotate_left 4; (focus (refine H.slGrow (e := 36) (size := 2) (n := ?_) (c := ?_) ?_; rotate_left 2; (repeat first | exact .head _ | apply List.Mem.tail))); exact (rr_len HX.out HQ.out); (focus (intro _; (exact r3))); exact (rr_one HX.out); exact (by unfold maxLen; omega); exact (by omega); clear hK K hn; clear H; (try clear w2); revert w3; intro w2 H; simp only [List.nil_append, Nat.zero_add] at H; (obtain ⟨A8, c8, rfl⟩ := H.growForm (v := v2) (by repeat first | exact .head _ | apply List.Mem.tail))) | (guard_target =~ wpList _ _ _ (Oper.mk _ (.call { callee := .builtin .append, args := _, argTypes := _ }) _ _ _ _ :: _) _ _; refine BigFrame.wpList_want rfl (fun K hK => ?_); refine o_append (row := ?_) (n := ?_) (xs := ?_) (l' := ?_) infoSl rfl rfl rfl H ?_ rfl ?_ ?_ (by kernel_rfl) rfl (by decide) ?_ ?_ ?_ (fun v2 w3 H2 hn => hK _ _ ?_); rotate_left 4; (repeat first | exact .head _ | apply List.Mem.tail); (focus (simp; done)); (focus (intro _; (exact r3))); exact rfl; exact (by unfold maxLen; omega); exact (by omega); clear hK K hn; clear H; (try clear w2); revert w3; intro w2 H; simp only [List.take_succ_cons, List.take_zero, Nat.one_mul] at H; (obtain ⟨A7, c7, rfl⟩ := H.growForm (v := v2) (by repeat first | exact .head _ | apply List.Mem.tail))) | (guard_target =~ wpList _ _ _ (Oper.mk _ (.load _ _) _ _ _ _ :: _) _ _; refine BigFrame.wpList_want rfl (fun K hK => ?_); (refine o_loadNC (row := ?_) rfl rfl H ?_ ?_ ?_ (hK _ _ ?_); rotate_left 1; (repeat first | exact .head _ | apply List.Mem.tail); (focus (intro _; simp; done)); (focus (intro _; simp; done))); clear hK K) | ((guard_target =~ wpList _ _ _ (Oper.mk _ (.buildSlice _ _ _) _ _ _ _ :: _) _ _; refine BigFrame.wpList_want rfl (fun K hK => ?_); refine o_buildSlice (C := ?_) (E := ?_) rfl rfl H ?_ rfl (fun w3 b2 he H2 => hK _ _ ?_); rotate_left 2; (focus (intro _; simp [go_sem, Instr.buildSlice]; with_reducible exact rfl))); clear hK K he; clear H; (try clear w2); revert w3; intro w2 H; simp [Act.eval, Value.cells, setL, List.getD] at H; (clear tk0; rename Nat => b4))); simp only [Act.put, List.setIfInBounds_toArray, List.set_cons_succ, List.set_cons_zero]))
              go_roundg (gkA - 1)
              case rel =>
                refine ⟨os ++ [⟨.slice Ar q cr, r⟩], ?_, by omega, by have := HJ.out; congr 1; omega, ?_⟩
                · rw [show N - (gkA - 1) = j + 1 by have := HJ.out; omega, HST.out, if_neg (by simpa using HVH.out), List.map_append, ← HEND.out]; rfl
                · have H4 := H.tail.swap.tail
                  rw [← HOM.out, ← HX.out, ← hR_app] at H4
                  have H5 := (H4.swap.swap1).putEnd (L := [_, _, _, _])
                  rw [show (os ++ [(⟨.slice Ar q cr, r⟩ : RgE)]).length = ol + 1 by rw [← HOL.out]; simp, show (os ++ [(⟨.slice Ar q cr, r⟩ : RgE)]).map (·.s) = os.map (·.s) ++ [.slice Ar q cr] by simp,
                    show (os ++ [(⟨.slice Ar q cr, r⟩ : RgE)]).map rB = os.map rB ++ [rB ⟨.slice Ar q cr, r⟩] by rw [List.map_append]; rfl,
                    show ((os ++ [(⟨.slice Ar q cr, r⟩ : RgE)]).map (·.l)).flatten = fl ++ r by rw [← HOF.out]; simp,
                    show (fl ++ r).length = fn + q by rw [List.length_append, ← HFL.out, HQ.out, HOF.out]]
                  rw [show Res.grow 36 2 (.slice Ar q cr) q (hR r) = rB ⟨.slice Ar q cr, r⟩ by rw [HQ.out]] at H5
                  exact H5
              case measure => omega
            · clear hgo hnz
              have tk0 : True := trivial
              go_wp2_with (guard_target =~ wpList _ _ _ (_ :: _) _ _; (first | (guard_target =~ wpList _ _ _ (Oper.mk _ (.call { callee := .builtin .append, args := _, argTypes := _ }) _ _ _ _ :: _) _ _; refine BigFrame.wpList_want rfl (fun K hK => ?_); refine o_appendS (news := ?_) (n := ?_) (xs := ?_) (l' := ?_) infoHf rfl rfl rfl H ?_ ?_ ?_ (by kernel_rfl) rfl (by decide) ?_ ?_ ?_ (fun v2 w3 H2 hn => hK _ _ ?_); rotate_left 4; (focus (refine H.slGrow (e := 36) (size := 2) (n := ?_) (c := ?_) ?_; rotate_left 2; (repeat first | exact .head _ | apply List.Mem.tail))); exact (rr_len HX.out HQ.out); (focus (intro _; (exact r3))); exact (rr_one HX.out); exact (by unfold maxLen; omega); exact (by omega); clear hK K hn; clear H; (try clear w2); revert w3; intro w2 H; simp only [List.nil_append, Nat.zero_add] at H; (obtain ⟨A8, c8, rfl⟩ := H.growForm (v := v2) (by repeat first | exact .head _ | apply List.Mem.tail))) | (guard_target =~ wpList _ _ _ (Oper.mk _ (.call { callee := .builtin .append, args := _, argTypes := _ }) _ _ _ _ :: _) _ _; refine BigFrame.wpList_want rfl (fun K hK => ?_); refine o_append (row := ?_) (n := ?_) (xs := ?_) (l' := ?_) infoSl rfl rfl rfl H ?_ rfl ?_ ?_ (by kernel_rfl) rfl (by decide) ?_ ?_ ?_ (fun v2 w3 H2 hn => hK _ _ ?_); rotate_left 4; (repeat first | exact .head _ | apply List.Mem.tail); (focus (simp; done)); (focus (intro _; (exact r3))); exact rfl; exact (by unfold maxLen; omega); exact (by omega); clear hK K hn; clear H; (try clear w2); revert w3; intro w2 H; simp only [List.take_succ_cons, List.take_zero, Nat.one_mul] at H; (obtain ⟨A7, c7, rfl⟩ := H.growForm (v := v2) (by repeat first | exact .head _ | apply List.Mem.tail))) | ((guard_target =~ wpList _ _ _ (Oper.mk _ (.buildSlice _ _ _) _ _ _ _ :: _) _ _; refine BigFrame.wpList_want rfl (fun K hK => ?_); refine o_buildSlice (C := ?_) (E := ?_) rfl rfl H ?_ rfl (fun w3 b2 he H2 => hK _ _ ?_); rotate_left 2; (focus (intro _; simp [go_sem, Instr.buildSlice]; with_reducible exact rfl))); clear hK K he; clear H; (try clear w2); revert w3; intro w2 H; simp [Act.eval, Value.cells, setL, List.getD] at H; (clear tk0; rename Nat => b4))); simp only [Act.put, List.setIfInBounds_toArray, List.set_cons_succ, List.set_cons_zero])
              go_roundg (gkA - 1)
              case rel =>
                refine ⟨os ++ [⟨.slice Ar q cr, r⟩], ?_, by omega, by have := HJ.out; congr 1; omega, ?_⟩
                · rw [show N - (gkA - 1) = j + 1 by have := HJ.out; omega, HST.out, if_neg (by simpa using HVH.out), List.map_append, ← HEND.out]; rfl
                · have H4 := H.tail.swap.tail
                  rw [← HOM.out, ← HX.out, ← hR_app] at H4
                  have H5 := (H4.swap.swap1).putEnd (L := [_, _, _, _])
                  rw [show (os ++ [(⟨.slice Ar q cr, r⟩ : RgE)]).length = ol + 1 by rw [← HOL.out]; simp, show (os ++ [(⟨.slice Ar q cr, r⟩ : RgE)]).map (·.s) = os.map (·.s) ++ [.slice Ar q cr] by simp,
                    show (os ++ [(⟨.slice Ar q cr, r⟩ : RgE)]).map rB = os.map rB ++ [rB ⟨.slice Ar q cr, r⟩] by rw [List.map_append]; rfl,
                    show ((os ++ [(⟨.slice Ar q cr, r⟩ : RgE)]).map (·.l)).flatten = fl ++ r by rw [← HOF.out]; simp,
                    show (fl ++ r).length = fn + q by rw [List.length_append, ← HFL.out, HQ.out, HOF.out]]
                  rw [show Res.grow 36 2 (.slice Ar q cr) q (hR r) = rB ⟨.slice Ar q cr, r⟩ by rw [HQ.out]] at H5
                  exact H5
              case measure => omega
      · have tk0 : True := trivial
        go_wp2_with (first
          | (go_at_call 34; (with_reducible refine (hH1 _ (H.slGrow m1)).mono ?_); rintro e w3 ⟨rfl, hb⟩; replace H := H.ext hb; clear hb; dsimp only; (skip))
          | (guard_target =~ wpList _ _ _ (_ :: _) _ _; (guard_target =~ wpList _ _ _ (Oper.mk _ (.load _ _) _ _ _ _ :: _) _ _; refine BigFrame.wpList_want rfl (fun K hK => ?_); (refine o_loadN (cs := ?_) (r := ?_) rfl rfl H ?_ ?_ ?_ ?_ (hK _ _ ?_); rotate_left 2; (with_reducible assumption); (repeat first | exact .head _ | apply List.Mem.tail); (focus (intro _; simp; done)); (focus (intro _; simp; done))); clear hK K); simp only [Act.put, List.setIfInBounds_toArray, List.set_cons_succ, List.set_cons_zero]))
        go_roundg (gk - 1)
        case rel =>
          refine ⟨os, ?_, by omega, by have := HJ.out; congr 1; omega, ?_⟩
          · rw [show N - (gk - 1) = j + 1 by have := HJ.out; omega, HST.out, if_pos (by simpa using HVH.out)]
          · rw [HOL.out, HFL.out]; exact H
        case measure => omega
    · obtain rfl : gk = 0 := by omega
      rw [Nat.sub_zero, List.take_of_length_le (by have := HN.out; omega)] at hos
      go_wp2_with (first | fail)
      obtain ⟨Ar, cr, rfl, h4, h5, h6⟩ := H.giveGrow m0 HF.out
      go_ret
      refine ⟨Ar, cr, os.map (·.s), ?_, H.below, h6, ?_, fun i r hr => ?_, ?_, h5⟩
      · have hlen : (ringsZ vs es).length = os.length := by unfold ringsZ; rw [← hos]; simp
        simp [hlen]
      · unfold ringsZ; rw [← hos]; simp
      · unfold ringsZ at hr
        rw [← hos, List.getElem?_map] at hr
        cases ho : os[i]? with
        | none => rw [ho] at hr; cases hr
        | some o =>
          rw [ho] at hr
          obtain rfl : o.l = r := by simpa using hr
          obtain ⟨A3, c3, e3, _, _, h3⟩ := H.giveGrow (e := 36) (size := 2) (v := o.s) (n := o.l.length) (xs := hR o.l) (by
            have : rB o ∈ os.map rB := List.mem_map.2 ⟨o, List.mem_of_getElem? ho, rfl⟩
            simp [this]) HF.out
          exact ⟨A3, c3, by rw [List.getElem?_map, ho]; simp [e3], h3⟩
      · unfold ringsZ; rw [← hos]; simpa using h4
end Go.Proofs.Ytlhmjhildlnokaa

/-
  The walks of the small functions of spin's statements: few, plain, awake.
-/
namespace Go.Proofs.Ytlhmjhildlnokaa
set_option linter.unusedVariables false
set_option linter.unusedSimpArgs false
open Go.RowKit

abbrev plV16 (A A2 : Option Addr) (n m c c2 : Nat) : Value := .agg #[.slice A n c, .slice A2 m c2]
set_option maxRecDepth 100000 in
theorem few16_any (A A2 : Option Addr) (n m c c2 : Nat) (w : World) :
    Calls Try.prog 12 #[.agg #[.slice A n c, .slice A2 m c2]] w fun e w' => e = .returned (.bool (decide (n ≤ 40) && decide (m ≤ 40))) ∧ Below w.heap.size w w' := by
  have H := Own.start w
  obtain ⟨v, hv⟩ : ∃ v, (decide (n ≤ 40) && decide (m ≤ 40)) = v := ⟨_, rfl⟩
  have HV := Lib.hid hv
  rw [hv]; clear hv
  go_enter Try.func12, Try.ntmps12
  have tk0 : True := trivial
  go_wp2_with (first
    | go_big_skip
    | (guard_target =~ wpList _ _ _ (_ :: _) _ _; (first | (guard_target =~ wpList _ _ _ (Oper.mk _ (.load _ _) _ _ _ _ :: _) _ _; refine BigFrame.wpList_want rfl (fun K hK => ?_); (refine o_loadC (v := ?_) (row := ?_) rfl rfl H ?_ ?_ ?_ (hK _ _ ?_); rotate_left 2; (repeat first | exact .head _ | apply List.Mem.tail); (exact rfl); (focus (intro _; simp; done))); clear hK K) | ((guard_target =~ wpList _ _ _ (Oper.mk _ (.box _ _) _ _ _ _ :: _) _ _; refine BigFrame.wpList_want rfl (fun K hK => ?_); refine o_box rfl H rfl (fun w3 b2 he H2 => hK _ _ ?_)); clear hK K he; clear H; (try clear w2); revert w3; intro w2 H; simp [Act.eval, Value.cells, setL, List.getD] at H; (clear tk0; rename Nat => b1))); simp only [Act.put, List.setIfInBounds_toArray, List.set_cons_succ, List.set_cons_zero]))
  all_goals
    go_ret
    exact ⟨ret_b (by rw [← HV.out, Bool.eq_iff_iff]; simp only [Bool.and_eq_true, decide_eq_true_eq, Bool.false_eq_true, false_iff]; omega), H.below⟩
set_option maxRecDepth 100000 in
theorem plain16_any (A A2 : Option Addr) (n m c c2 : Nat) (w : World) :
    Calls Try.prog 15 #[.agg #[.slice A n c, .slice A2 m c2]] w fun e w' => e = .returned (.agg #[.slice A n c, .slice A2 m c2]) ∧ Below w.heap.size w w' := by
  have H := Own.start w
  go_enter Try.func15, Try.ntmps15
  have tk0 : True := trivial
  have tk1 : True := trivial
  go_wp2_with (guard_target =~ wpList _ _ _ (_ :: _) _ _; (first | (guard_target =~ wpList _ _ _ (Oper.mk _ (.load _ _) _ _ _ _ :: _) _ _; refine BigFrame.wpList_want rfl (fun K hK => ?_); (refine o_loadC (v := ?_) (row := ?_) rfl rfl H ?_ ?_ ?_ (hK _ _ ?_); rotate_left 2; (repeat first | exact .head _ | apply List.Mem.tail); (exact rfl); (focus (intro _; simp; done))); clear hK K) | (guard_target =~ wpList _ _ _ (Oper.mk _ (.store _ _ _) _ _ _ _ :: _) _ _; refine BigFrame.wpList_want rfl (fun K hK => ?_); refine o_store (l' := ?_) (row := ?_) rfl rfl H rfl ?_ ?_ ?_ ?_ (fun w3 H2 => hK _ _ ?_); rotate_left 2; (exact r0); (focus (intro _; simp [Act.eval, Value.cells]; done)); (focus (simp [Act.eval, Value.cells]; done)); (exact rfl); clear hK K; clear H; (try clear w2); revert w3; intro w2 H; simp [Act.eval, Value.cells, setL, List.getD] at H) | ((first | (guard_target =~ wpList _ _ _ (Oper.mk _ (.alloc _) _ _ _ _ :: _) _ _; refine BigFrame.wpList_want rfl (fun K hK => ?_); refine o_alloc (z := ?_) rfl ?_ H rfl (fun w3 b2 he H2 => hK _ _ ?_); rotate_left 1; (focus (intro _; simp; with_reducible exact rfl))) | (guard_target =~ wpList _ _ _ (Oper.mk _ (.box _ _) _ _ _ _ :: _) _ _; refine BigFrame.wpList_want rfl (fun K hK => ?_); refine o_box rfl H rfl (fun w3 b2 he H2 => hK _ _ ?_))); clear hK K he; clear H; (try clear w2); revert w3; intro w2 H; simp [Act.eval, Value.cells, setL, List.getD] at H; (first | (clear tk0; rename Nat => b1) | (clear tk1; rename Nat => b2)))); simp only [Act.put, List.setIfInBounds_toArray, List.set_cons_succ, List.set_cons_zero])
  have hr := H.loadVarN (P := Try.prog) (ty := 30) m0 (by kernel_rfl) (by kernel_rfl)
  exact bodyPost_ret (v := .agg #[.slice A n c, .slice A2 m c2]) (by simp [results, Try.results15, asAddr, hr]) rfl ⟨rfl, H.below⟩
def vs16 : List Vt := [⟨1, ⟨0, 0⟩⟩, ⟨2, ⟨4, 0⟩⟩]
def es16 : List Eg := [⟨1, 1, 2⟩]
theorem vR16 : vR vs16 = [.int .i64 1, .int .i64 0, .int .i64 0, .int .i64 2, .int .i64 4, .int .i64 0] := rfl
theorem eR16 : eR es16 = [.int .i64 1, .int .i64 1, .int .i64 2] := rfl
theorem aw16_r : rightB vs16 es16 = true := by decide +kernel
theorem aw16_l : ringsZ vs16 es16 = [[⟨1, false⟩, ⟨1, true⟩]] := by decide +kernel
/-- One ring. -/
theorem retR_one {F : Nat → Prop} {w : World} {r : List Hf} {e : Ending} {w' : World} (h : RetR F w [r] e w') : ∃ A c A1 c1, e = .returned (.slice A 1 c) ∧ Below w.heap.size w w' ∧ Sl F w' A [.slice A1 r.length c1] ∧ Sl F w' A1 (hR r) := by
  obtain ⟨A, c, hs, rfl, hb, h1, h2, h3, h4, h5⟩ := h
  obtain ⟨A1, c1, h6, h7⟩ := h3 0 r rfl
  match hs, h2, h6 with
  | [x], _, h6 =>
    obtain rfl : x = .slice A1 r.length c1 := by simpa using h6
    exact ⟨A, c, A1, c1, rfl, hb, h1, h7⟩
theorem at_rdN0 (b o : Nat) (A : Option Addr) (n c : Nat) : (Res.rd (some ⟨b, o, none⟩) b o [.slice A n c]).at b o [.slice A n c] := ⟨rfl, 0, rfl, rfl⟩
set_option maxRecDepth 100000 in
set_option maxHeartbeats 4000000 in
theorem awake16_any (w : World) :
    Calls Try.prog 13 #[] w fun e w' => e = .returned (.bool true) ∧ Below w.heap.size w w' := by
  have H := Own.start w
  obtain ⟨F0, hno⟩ : ∃ F0 : Nat → Prop, ∀ k, ¬ F0 k := ⟨fun _ => False, fun _ h => h⟩
  have h1 := fun F w b b' h h' hF => (srings_any vs16 es16 (some ⟨b, 0, none⟩) (some ⟨b', 0, none⟩) 2 1 2 1 F w rfl rfl h h' hF (by omega) (by omega) (by omega) (by unfold maxLen; omega))
  simp only [aw16_r, aw16_l, if_true] at h1
  rw [vR16, eR16] at h1
  have h2 := fun w b b' h h' => (h1 F0 w b b' h h' (fun k h => absurd h (hno k))).mono (fun _ _ h => retR_one h)
  clear h1
  have hsm := fun F w A A2 c c2 (h : Sl F w A (hR [⟨1, false⟩, ⟨1, true⟩])) (h' : Sl F0 w A2 [.int .i64 1, .bool false, .int .i64 1, .bool true]) => same_any [⟨1, false⟩, ⟨1, true⟩] [⟨1, false⟩, ⟨1, true⟩] A A2 2 2 c c2 (fun _ => False) w rfl rfl h.none_of h'.none_of (by omega) (by omega)
  simp only [decide_true] at hsm
  go_enter Try.func13, Try.ntmps13
  have tk0 : True := trivial
  have tk1 : True := trivial
  have tk2 : True := trivial
  have tk3 : True := trivial
  go_wp2_with (first
    | (go_at_call 14; (with_reducible refine (h2 _ _ _ (H.giveCells m2 (fun k h => absurd h (hno k)) 0 rfl) (H.giveCells m1 (fun k h => absurd h (hno k)) 0 rfl)).mono ?_); rintro e w3 ⟨A3, c3, A4, c4, rfl, hb, s3, s4⟩; replace H := H.ext hb; clear hb; replace H := H.none_; replace s3 := s3.ro (l := []) rfl; obtain ⟨b3, o3, H4, f3⟩ := H.addSl s3; clear H s3; have H := H4; clear H4; replace s4 := H.moreRo rfl (s4.ro (l := []) rfl); obtain ⟨b4, o4, H4, f4⟩ := H.addSl s4; clear H s4; have H := H4; clear H4; obtain rfl := H.rdAddr m1 (by simp); have p1 := at_rdN0 b3 o3 A4 2 c4; dsimp only; (skip))
    | (go_at_call 18; (with_reducible refine (hsm _ _ _ _ _ _ (by exact H.giveRd m1 f4) (H.giveCells m0 (fun k h => absurd h (hno k)) 0 rfl)).mono ?_); rintro e w3 ⟨rfl, hb⟩; replace H := H.ext hb; clear hb; dsimp only; (skip))
    | (guard_target =~ wpList _ _ _ (_ :: _) _ _; (first | (guard_target =~ wpList _ _ _ (Oper.mk _ (.load _ _) _ _ _ _ :: _) _ _; refine BigFrame.wpList_want rfl (fun K hK => ?_); (first | (refine o_load (v := ?_) (r := ?_) rfl rfl H ?_ ?_ ?_ (hK _ _ ?_); rotate_left 2; (with_reducible assumption); (repeat first | exact .head _ | apply List.Mem.tail); (focus (intro _; simp; done))) | (refine o_loadNC (row := ?_) rfl rfl H ?_ ?_ ?_ (hK _ _ ?_); rotate_left 1; (repeat first | exact .head _ | apply List.Mem.tail); (focus (intro _; simp; done)); (focus (intro _; simp; done)))); clear hK K) | (guard_target =~ wpList _ _ _ (Oper.mk _ (.store _ _ _) _ _ _ _ :: _) _ _; refine BigFrame.wpList_want rfl (fun K hK => ?_); refine o_store (l' := ?_) (row := ?_) rfl rfl H rfl ?_ ?_ ?_ ?_ (fun w3 H2 => hK _ _ ?_); rotate_left 2; (exact r0); (focus (intro _; simp [Act.eval, Value.cells]; done)); (focus (simp [Act.eval, Value.cells]; done)); (exact rfl); clear hK K; clear H; (try clear w2); revert w3; intro w2 H; simp [Act.eval, Value.cells, setL, List.getD] at H) | ((first | (guard_target =~ wpList _ _ _ (Oper.mk _ (.alloc _) _ _ _ _ :: _) _ _; refine BigFrame.wpList_want rfl (fun K hK => ?_); refine o_alloc (z := ?_) rfl ?_ H rfl (fun w3 b2 he H2 => hK _ _ ?_); rotate_left 1; (focus (intro _; simp; with_reducible exact rfl))) | (guard_target =~ wpList _ _ _ (Oper.mk _ (.buildSlice _ _ _) _ _ _ _ :: _) _ _; refine BigFrame.wpList_want rfl (fun K hK => ?_); refine o_buildSlice (C := ?_) (E := ?_) rfl rfl H ?_ rfl (fun w3 b2 he H2 => hK _ _ ?_); rotate_left 2; (focus (intro _; simp [go_sem, Instr.buildSlice]; with_reducible exact rfl)))); clear hK K he; clear H; (try clear w2); revert w3; intro w2 H; simp [Act.eval, Value.cells, setL, List.getD] at H; (first | (clear tk0; rename Nat => b1) | (clear tk1; rename Nat => b2) | (clear tk2; rename Nat => b5) | (clear tk3; rename Nat => b6)))); simp only [Act.put, List.setIfInBounds_toArray, List.set_cons_succ, List.set_cons_zero]))
  go_ret
  exact ⟨rfl, H.below⟩
end Go.Proofs.Ytlhmjhildlnokaa

/-
  An argument that is a plan: two rows of structs of three integers.
-/
namespace Go.Proofs.Ytlhmjhildlnokaa
set_option linter.unusedVariables false
set_option linter.constructorNameAsVariable false
open Go.RowKit Go.WideShapes Go.ChangeShapes
theorem add_add (a : Addr) (m j : Nat) : (a.add m).add j = a.add (m + j) := by
  by_cases hm : m = 0
  · subst hm; simp [Addr.add]
  · by_cases hj : j = 0
    · subst hj; simp [Addr.add]
    · simp [Addr.add, hm, hj, Nat.add_assoc]
theorem len2 {l : List Value} (h : l.length = 2) : ∃ a b, l = [a, b] := by
  match l, h with
  | [a, b], _ => exact ⟨a, b, rfl⟩
theorem len3 {l : List Value} (h : l.length = 3) : ∃ a b c, l = [a, b, c] := by
  match l, h with
  | [a, b, c], _ => exact ⟨a, b, c, rfl⟩
section
variable {H : Type} {enc : TypeId × Value → H} {P : Program} {w : World} {base : Nat} {spare : Nat → Bool} {held : Bool}
/-- A row of elements, each of three cells. -/
theorem trod_rows {α : Type} {f : α → List Value} {Q : α → Prop} {t e : TypeId} {n : Nat} {cs : List Value} {y : DataW H × List MemPlace} (ht : P.underlying t = some (.slice e)) (hc : P.cellsOf e = 3) (hf3 : ∀ a, (f a).length = 3)
    (hE : ∀ (n : Nat) cs x, DataW.trod enc P w base spare held n e cs = some x → ∃ a, cs = f a ∧ Q a) (h : DataW.trod enc P w base spare held n t cs = some y) :
    ∃ (A : Option Addr) (cap : Nat) (L : List α), cs = [.slice A L.length cap] ∧ L.length ≤ cap ∧ cap ≤ maxLen ∧ (∀ a ∈ L, Q a) ∧ Row w A (L.flatMap f) := by
  rcases DataW.trod_slice ht h with ⟨rfl, _⟩ | ⟨a, len, cap, elems, rest, n', _, rfl, _, hb, hl, hm, hlen, hel, _⟩
  · exact ⟨none, 0, [], rfl, Nat.le_refl _, Nat.zero_le _, by simp, Row.nil_ _ _⟩
  · have each : ∀ i, i < len → ∃ v : α, Q v ∧ ∀ j u, (f v)[j]? = some u → w.cell? (a.add (i * 3 + j)) = some u := by
      intro i hi
      have h1 := hel i hi
      have h2 : elems[i]? = some elems[i] := List.getElem?_eq_getElem (by omega)
      rw [h2, Option.bind_eq_some_iff] at h1
      obtain ⟨cs', h3, h4⟩ := h1
      obtain ⟨v, rfl, hq⟩ := hE _ _ _ h4
      refine ⟨v, hq, fun j u hj => ?_⟩
      have h5 := World.cells?_some h3
      rw [hc] at h5
      have hj3 : j < 3 := by have := (List.getElem?_eq_some_iff.1 hj).1; rw [hf3] at this; exact this
      have := h5.2.2 j hj3
      rw [hj] at this
      rw [← this, add_add]
    have choose : ∀ k, k ≤ len → ∃ L : List α, L.length = k ∧ (∀ v ∈ L, Q v) ∧ ∀ i v, L[i]? = some v → ∀ j u, (f v)[j]? = some u → w.cell? (a.add (i * 3 + j)) = some u := by
      intro k
      induction k with
      | zero => exact fun _ => ⟨[], rfl, by simp, by simp⟩
      | succ k ih =>
        intro hk
        obtain ⟨L, h1, h2, h3⟩ := ih (by omega)
        obtain ⟨v, h4, h5⟩ := each k (by omega)
        refine ⟨L ++ [v], by simp [h1], fun u hu => ?_, fun i u hi => ?_⟩
        · rcases List.mem_append.1 hu with hu | hu
          · exact h2 u hu
          · obtain rfl := List.mem_singleton.1 hu; exact h4
        · rw [List.getElem?_append] at hi
          split at hi
          · exact h3 i u hi
          · rename_i hik
            have : i - L.length = 0 := by
              by_cases h0 : i - L.length = 0
              · exact h0
              · rw [List.getElem?_eq_none (by simp; omega)] at hi; cases hi
            rw [this] at hi
            obtain rfl : v = u := by simpa using hi
            obtain rfl : i = k := by omega
            exact h5
    obtain ⟨L, h1, h2, h3⟩ := choose len (Nat.le_refl _)
    refine ⟨some a, cap, L, by rw [h1], by omega, hm, h2, Row.of_cells fun j v hv => ?_⟩
    have hj : j < L.length * 3 := by have := (List.getElem?_eq_some_iff.1 hv).1; rwa [flat3_len f hf3] at this
    have hi : j / 3 < L.length := by omega
    have hg : L[j / 3]? = some L[j / 3] := List.getElem?_eq_getElem hi
    have hat := flat3_at f hf3 L (j / 3) _ hg
    have := h3 (j / 3) _ hg (j % 3) v (by
      rw [← hat, List.getElem?_take, if_pos (Nat.mod_lt _ (by omega)), List.getElem?_drop, show j / 3 * 3 + j % 3 = j by omega]; exact hv)
    rwa [show j / 3 * 3 + j % 3 = j by omega] at this
/-- Fields of a struct. -/
theorem trod_flds {fs : Array Field} {t : TypeId} {n : Nat} {cs : List Value} {y : DataW H × List MemPlace} {l : List (TypeId × Nat)} (hu : P.underlying t = some (.struct fs)) (hfs : fs.toList.map (fun f => (f.type, f.offset)) = l)
    (h : DataW.trod enc P w base spare held n t cs = some y) : cs.length = P.cellsOf t ∧ ∀ u o, (u, o) ∈ l → ∃ n' x, DataW.trod enc P w base spare held n' u ((cs.drop o).take (P.cellsOf u)) = some x := by
  obtain ⟨xs, n', _, _, hlen, hxl, hx⟩ := DataW.trod_struct hu h
  refine ⟨hlen, fun u o hm => ?_⟩
  rw [← hfs] at hm
  obtain ⟨f, hf, e⟩ := List.mem_map.1 hm
  simp only [Prod.mk.injEq] at e
  obtain ⟨rfl, rfl⟩ := e
  obtain ⟨i, hi⟩ := List.getElem?_of_mem hf
  have hi' : fs[i]? = some f := by simpa using hi
  have := hx i f hi'
  have hil : i < xs.length := by rw [hxl]; exact (Array.getElem?_eq_some_iff.1 hi').1
  rw [List.getElem?_eq_getElem hil] at this
  exact ⟨n', _, this⟩
end
section
variable {H : Type} {enc : TypeId × Value → H} {w : World} {base : Nat} {spare : Nat → Bool} {held : Bool}
theorem wf64 {n : Int} (h : (Lit.int .i64 n).wf = true) : -9223372036854775808 ≤ n ∧ n ≤ 9223372036854775807 := bounds_i64 h
def In64 (n : Int) : Prop := -9223372036854775808 ≤ n ∧ n ≤ 9223372036854775807
theorem trod_pt {n : Nat} {cs : List Value} {y : DataW H × List MemPlace} (h : DataW.trod enc Try.prog w base spare held n 47 cs = some y) : ∃ a b, cs = [.int .i64 a, .int .i64 b] ∧ In64 a ∧ In64 b := by
  have hu : Try.prog.underlying 47 = some (.struct (Try.prog.fieldsOf 47)) := by kernel_rfl
  have hf : (Try.prog.fieldsOf 47).toList.map (fun f => (f.type, f.offset)) = [(3, 0), (3, 1)] := by kernel_rfl
  have hi : Try.prog.underlying 3 = some (.int .i64) := by kernel_rfl
  have hc : Try.prog.cellsOf 3 = 1 := by kernel_rfl
  have hC : Try.prog.cellsOf 47 = 2 := by kernel_rfl
  obtain ⟨hl, hx⟩ := trod_flds hu hf h
  rw [hC] at hl
  obtain ⟨c0, c1, rfl⟩ := len2 hl
  obtain ⟨_, _, h0⟩ := hx 3 0 (by simp)
  obtain ⟨_, _, h1⟩ := hx 3 1 (by simp)
  rw [hc] at h0 h1
  obtain ⟨a, ea, _, wa⟩ := DataW.trod_int hi h0
  obtain ⟨b, eb, _, wb⟩ := DataW.trod_int hi h1
  simp at ea eb
  subst ea eb
  exact ⟨a, b, rfl, bounds_i64 wa, bounds_i64 wb⟩
theorem trod_vt (n : Nat) (cs : List Value) (y : DataW H × List MemPlace) (h : DataW.trod enc Try.prog w base spare held n 49 cs = some y) : ∃ v : Vt, cs = t3 v.id v.p.x v.p.y ∧ (In64 v.id ∧ In64 v.p.x ∧ In64 v.p.y) := by
  have hu : Try.prog.underlying 49 = some (.struct (Try.prog.fieldsOf 49)) := by kernel_rfl
  have hf : (Try.prog.fieldsOf 49).toList.map (fun f => (f.type, f.offset)) = [(3, 0), (47, 1)] := by kernel_rfl
  have hi : Try.prog.underlying 3 = some (.int .i64) := by kernel_rfl
  have hc : Try.prog.cellsOf 3 = 1 := by kernel_rfl
  have hc2 : Try.prog.cellsOf 47 = 2 := by kernel_rfl
  have hC : Try.prog.cellsOf 49 = 3 := by kernel_rfl
  obtain ⟨hl, hx⟩ := trod_flds hu hf h
  rw [hC] at hl
  obtain ⟨c0, c1, c2, rfl⟩ := len3 hl
  obtain ⟨_, _, h0⟩ := hx 3 0 (by simp)
  obtain ⟨_, _, h1⟩ := hx 47 1 (by simp)
  rw [hc] at h0
  rw [hc2] at h1
  obtain ⟨a, ea, _, wa⟩ := DataW.trod_int hi h0
  obtain ⟨b, c, eb, wb, wc⟩ := trod_pt h1
  simp at ea eb
  obtain ⟨e1, e2⟩ := eb
  subst ea e1 e2
  exact ⟨⟨a, ⟨b, c⟩⟩, rfl, bounds_i64 wa, wb, wc⟩
theorem trod_eg (n : Nat) (cs : List Value) (y : DataW H × List MemPlace) (h : DataW.trod enc Try.prog w base spare held n 79 cs = some y) : ∃ v : Eg, cs = t3 v.id v.a v.b ∧ (In64 v.id ∧ In64 v.a ∧ In64 v.b) := by
  have hu : Try.prog.underlying 79 = some (.struct (Try.prog.fieldsOf 79)) := by kernel_rfl
  have hf : (Try.prog.fieldsOf 79).toList.map (fun f => (f.type, f.offset)) = [(3, 0), (3, 1), (3, 2)] := by kernel_rfl
  have hi : Try.prog.underlying 3 = some (.int .i64) := by kernel_rfl
  have hc : Try.prog.cellsOf 3 = 1 := by kernel_rfl
  have hC : Try.prog.cellsOf 79 = 3 := by kernel_rfl
  obtain ⟨hl, hx⟩ := trod_flds hu hf h
  rw [hC] at hl
  obtain ⟨c0, c1, c2, rfl⟩ := len3 hl
  obtain ⟨_, _, h0⟩ := hx 3 0 (by simp)
  obtain ⟨_, _, h1⟩ := hx 3 1 (by simp)
  obtain ⟨_, _, h2⟩ := hx 3 2 (by simp)
  rw [hc] at h0 h1 h2
  obtain ⟨a, ea, _, wa⟩ := DataW.trod_int hi h0
  obtain ⟨b, eb, _, wb⟩ := DataW.trod_int hi h1
  obtain ⟨c, ec, _, wc⟩ := DataW.trod_int hi h2
  simp at ea eb ec
  subst ea eb ec
  exact ⟨⟨a, b, c⟩, rfl, bounds_i64 wa, bounds_i64 wb, bounds_i64 wc⟩
theorem row_sl {A : Option Addr} {xs : List Value} (h : Row w A xs) : Sl (fun _ => False) w A xs := by
  by_cases hp : 0 < xs.length
  · obtain ⟨b, off, rfl, hc⟩ := h hp
    have h0 := hc 0 _ (List.getElem?_eq_getElem hp)
    exact ⟨b, off, fun _ => ⟨rfl, World.block_lt_of_cell? w _ h0, id⟩, hc⟩
  · have : xs = [] := by cases xs with | nil => rfl | cons => simp at hp
    subst this
    exact Sl.nil_ _ _ _
/-- What is handed over in an argument that is a plan. -/
structure PlArg (w : World) (A A2 : Option Addr) (c c2 : Nat) (vs : List Vt) (es : List Eg) : Prop where
  sv : Sl (fun _ => False) w A (vR vs)
  se : Sl (fun _ => False) w A2 (eR es)
  cv : vs.length ≤ c ∧ c ≤ maxLen
  ce : es.length ≤ c2 ∧ c2 ≤ maxLen
  wv : ∀ v ∈ vs, In64 v.id ∧ In64 v.p.x ∧ In64 v.p.y
  we : ∀ e ∈ es, In64 e.id ∧ In64 e.a ∧ In64 e.b
theorem open_plan {r : Reach} {b0 : Nat} {v : Value} {d : DataW H} {p : List MemPlace} (hv : Value.okWide Try.prog w r b0 25 v) (h : DataW.Trod enc Try.prog w base spare held 25 v d p) :
    ∃ A A2 c c2 vs es, v = .agg #[.slice A (vs : List Vt).length c, .slice A2 (es : List Eg).length c2] ∧ PlArg w A A2 c c2 vs es := by
  have hu : Try.prog.underlying 25 = some (.struct (Try.prog.fieldsOf 25)) := by kernel_rfl
  have hf : (Try.prog.fieldsOf 25).toList.map (fun f => (f.type, f.offset)) = [(22, 0), (23, 1)] := by kernel_rfl
  have hC : Try.prog.cellsOf 25 = 2 := by kernel_rfl
  have hc1 : Try.prog.cellsOf 22 = 1 := by kernel_rfl
  have hc2 : Try.prog.cellsOf 23 = 1 := by kernel_rfl
  have hs1 : Try.prog.underlying 22 = some (.slice 49) := by kernel_rfl
  have hs2 : Try.prog.underlying 23 = some (.slice 79) := by kernel_rfl
  simp only [Value.okWide, hu] at hv
  obtain ⟨cs, rfl, hsz, _⟩ := hv
  obtain ⟨fuel, hx⟩ := h
  obtain ⟨hl, hx⟩ := trod_flds hu hf hx
  rw [hC] at hsz
  obtain ⟨l⟩ := cs
  simp only [List.size_toArray] at hsz
  obtain ⟨e0, e1, rfl⟩ := len2 hsz
  obtain ⟨_, _, h0⟩ := hx 22 0 (by simp)
  obtain ⟨_, _, h1⟩ := hx 23 1 (by simp)
  rw [hc1] at h0
  rw [hc2] at h1
  obtain ⟨A, c, vs, k1, k2, k3, k4, k5⟩ := trod_rows hs1 (by kernel_rfl) (fun _ => rfl) trod_vt h0
  obtain ⟨A2, c2, es, l1, l2, l3, l4, l5⟩ := trod_rows hs2 (by kernel_rfl) (fun _ => rfl) trod_eg h1
  simp [Value.cells] at k1 l1
  subst k1 l1
  exact ⟨A, A2, c, c2, vs, es, rfl, row_sl k5, row_sl l5, ⟨k2, k3⟩, ⟨l2, l3⟩, k4, l4⟩
theorem open_pt {r : Reach} {b0 : Nat} {v : Value} {d : DataW H} {p : List MemPlace} (hv : Value.okWide Try.prog w r b0 47 v) (h : DataW.Trod enc Try.prog w base spare held 47 v d p) :
    ∃ a b, v = pV a b ∧ In64 a ∧ In64 b := by
  have hu : Try.prog.underlying 47 = some (.struct (Try.prog.fieldsOf 47)) := by kernel_rfl
  simp only [Value.okWide, hu] at hv
  obtain ⟨cs, rfl, hsz, _⟩ := hv
  obtain ⟨fuel, hx⟩ := h
  obtain ⟨a, b, e, wa, wb⟩ := trod_pt hx
  obtain ⟨l⟩ := cs
  simp [Value.cells] at e
  subst e
  exact ⟨a, b, rfl, wa, wb⟩
end
end Go.Proofs.Ytlhmjhildlnokaa

/-
  An argument that is a half: a number and a truth.
-/
namespace Go.Proofs.Ytlhmjhildlnokaa
set_option linter.unusedVariables false
set_option linter.constructorNameAsVariable false
open Go.RowKit Go.WideShapes Go.ChangeShapes
section
variable {H : Type} {enc : TypeId × Value → H} {w : World} {base : Nat} {spare : Nat → Bool} {held : Bool}
theorem open_half {r : Reach} {b0 : Nat} {v : Value} {d : DataW H} {p : List MemPlace} (hv : Value.okWide Try.prog w r b0 36 v) (h : DataW.Trod enc Try.prog w base spare held 36 v d p) :
    ∃ a b, v = .agg #[.int .i64 a, .bool b] ∧ In64 a := by
  have hu : Try.prog.underlying 36 = some (.struct (Try.prog.fieldsOf 36)) := by kernel_rfl
  have hf : (Try.prog.fieldsOf 36).toList.map (fun f => (f.type, f.offset)) = [(3, 0), (4, 1)] := by kernel_rfl
  have hi : Try.prog.underlying 3 = some (.int .i64) := by kernel_rfl
  have hb : Try.prog.underlying 4 = some .bool := by kernel_rfl
  have hc : Try.prog.cellsOf 3 = 1 := by kernel_rfl
  have hcb : Try.prog.cellsOf 4 = 1 := by kernel_rfl
  have hC : Try.prog.cellsOf 36 = 2 := by kernel_rfl
  simp only [Value.okWide, hu] at hv
  obtain ⟨cs, rfl, hsz, _⟩ := hv
  obtain ⟨fuel, hx⟩ := h
  obtain ⟨hl, hx⟩ := trod_flds hu hf hx
  rw [hC] at hsz
  obtain ⟨l⟩ := cs
  simp only [List.size_toArray] at hsz
  obtain ⟨e0, e1, rfl⟩ := len2 hsz
  obtain ⟨_, _, h0⟩ := hx 3 0 (by simp)
  obtain ⟨_, _, h1⟩ := hx 4 1 (by simp)
  rw [hc] at h0
  rw [hcb] at h1
  obtain ⟨a, ea, _, wa⟩ := DataW.trod_int hi h0
  obtain ⟨b, eb, _⟩ := DataW.trod_bool hb h1
  simp [Value.cells] at ea eb
  subst ea eb
  exact ⟨a, b, rfl, bounds_i64 wa⟩
end
end Go.Proofs.Ytlhmjhildlnokaa

/-
  The walks of spin's statements: orders, out, next.
-/
namespace Go.Proofs.Ytlhmjhildlnokaa
set_option linter.unusedVariables false
set_option linter.unusedSimpArgs false
open Go.RowKit

set_option maxRecDepth 200000 in
set_option maxHeartbeats 16000000 in
theorem law_SpinOrders (e : Int) (b : Bool) (f : Int) (c : Bool) (w : World) :
    Calls Try.prog 4 #[.agg #[.int .i64 e, .bool b], .agg #[.int .i64 f, .bool c]] w fun e w' => e = .returned (.bool true) ∧ Below w.heap.size w w' := by
  have H := Own.start w
  have hq : ∀ w, (binOp .eql 36 (.agg #[.int .i64 e, .bool (!b)]) (.agg #[.int .i64 e, .bool (!b)])).run Try.prog w = .ok (.bool true) w := fun w => by
    rw [eqH_eql]; simp
  have hg := eqH_guard
  have h1 := fun w => sless_any e f b c w
  have h2 := fun w => rsless_any e f b c w
  generalize lessH ⟨e, b⟩ ⟨f, c⟩ = v at h1 h2
  go_enter Try.func4, Try.ntmps4
  have tk0 : True := trivial
  have tk1 : True := trivial
  go_wp2_with (first
    | (guard_target =~ Code.wp _ (Code.region 1 _ true) _ _ _; refine region_treeC0 1 (G := True) (.q 0 (.q 1 (.q 2 (.q 3 (.q 4 (.q 5 (.q 6 (.q 7 (.q 8 (.q 9 (.q 10 (.q 11 (.q 12 (.q 13 (.q 14 (.q 15 (.q 16 (.q 17 .nil)))))))))))))))))) (by kernel_rfl) (by intro c a d v w h; cases d <;> exact h) (by kernel_rfl) H ⟨trivial⟩ (fun _ w3 H2 => ?_); (clear H; (try clear w2); revert w3; intro w2 H))
    | (guard_target =~ wpList _ _ _ (_ :: _) _ _; ((guard_target =~ wpList _ _ _ (Oper.mk _ (.box _ _) _ _ _ _ :: _) _ _; refine BigFrame.wpList_want rfl (fun K hK => ?_); refine o_box rfl H rfl (fun w3 b2 he H2 => hK _ _ ?_)); clear hK K he; clear H; (try clear w2); revert w3; intro w2 H; simp [Act.eval, Value.cells, setL, List.getD] at H; (first | (clear tk0; rename Nat => b1) | (clear tk1; rename Nat => b2))); simp only [Act.put, List.setIfInBounds_toArray, List.set_cons_succ, List.set_cons_zero])
    | (guard_target =~ wpTreeC _ _ _ _ _ _ _; first | (guard_target =~ wpTreeC _ _ _ (Tr.e _ Tr.nil) _ _ _; refine treeC_last (by decide +kernel) H rfl rfl (fun w3 H2 K hK => ?_); clear H; (try clear w2); (revert w3; intro w2 H); simp only [List.getElem_toArray, List.getElem_cons_succ, List.getElem_cons_zero]; (first | fail); simp only [Act.put, List.setIfInBounds_toArray, List.set_cons_succ, List.set_cons_zero]) | (guard_target =~ wpTreeC _ _ _ (Tr.q _ _) _ _ _; first | (refine treeC_quiet ⟨_, H, by repeat first | exact .here | apply Suf.there⟩ rfl rfl rfl (fun K hK => ?_); simp only [List.getElem_toArray, List.getElem_cons_succ, List.getElem_cons_zero]; first | (guard_target =~ Oper.quiet _ (Oper.mk _ (.load _ _) _ _ _ _) _ _ _; (refine q_loadNC (row := ?_) rfl rfl ?_ ?_ ?_ (hK _ ?_); rotate_left 1; (repeat first | exact .head _ | apply List.Mem.tail); (focus (intro _; simp; done)); (focus (intro _; simp; done))); clear hK K; simp only [Act.put, List.setIfInBounds_toArray, List.set_cons_succ, List.set_cons_zero]) | (go_big_quiet_op; (try refine ⟨_, fun _ _ => rfl, ?_⟩); refine hK _ ?_; clear hK K)) | (refine treeC_call (v := ?_) ⟨_, H, by repeat first | exact .here | apply Suf.there⟩ rfl rfl (fun w3 H K hK => ?_) ?_; rotate_left 1; (focus (simp only [List.getElem_toArray, List.getElem_cons_succ, List.getElem_cons_zero]; first | (go_big_op; first | exact hK _ (Ext.refl _) | (go_at_call 13; (with_reducible refine (awake16_any _).mono ?_); rintro e w3 ⟨rfl, hb⟩; dsimp only; first | exact hK _ hb | exact hK _ (Ext.refl _)) | (go_at_call 19; (with_reducible refine (twin_any _ _ _).mono ?_); rintro e w3 ⟨rfl, hb⟩; dsimp only; first | exact hK _ hb | exact hK _ (Ext.refl _)) | (go_at_call 20; (with_reducible refine (rtwin_any _ _ _).mono ?_); rintro e w3 ⟨rfl, hb⟩; dsimp only; first | exact hK _ hb | exact hK _ (Ext.refl _)) | (go_at_call 21; (with_reducible refine (h1 _).mono ?_); rintro e w3 ⟨rfl, hb⟩; dsimp only; first | exact hK _ hb | exact hK _ (Ext.refl _)) | (go_at_call 22; (with_reducible refine (h2 _).mono ?_); rintro e w3 ⟨rfl, hb⟩; dsimp only; first | exact hK _ hb | exact hK _ (Ext.refl _))))); simp only [List.getElem_toArray, List.getElem_cons_succ, List.getElem_cons_zero, Act.put, List.setIfInBounds_toArray, List.set_cons_succ, List.set_cons_zero]) | (refine treeC_skip ⟨_, H, by repeat first | exact .here | apply Suf.there⟩ rfl rfl ?_; simp only [List.getElem_toArray, List.getElem_cons_succ, List.getElem_cons_zero, Act.put, List.setIfInBounds_toArray, List.set_cons_succ, List.set_cons_zero])) | (guard_target =~ wpTreeC _ _ _ (Tr.both _ _) _ _ _; refine treeC_both ?_ ?_) | (guard_target =~ wpTreeC _ _ _ (Tr.e _ _) _ _ _; first | (refine treeC_one H rfl rfl (fun w3 H2 K hK => ?_); clear H; (try clear w2); (revert w3; intro w2 H); simp only [List.getElem_toArray, List.getElem_cons_succ, List.getElem_cons_zero]; first | ((first | fail); simp only [Act.put, List.setIfInBounds_toArray, List.set_cons_succ, List.set_cons_zero]) | (go_big_op; (first | fail))) | (refine treeC_one_skip (fun w3 hx => ⟨_, H.ext hx, by repeat first | exact .here | apply Suf.there⟩) rfl rfl (fun w3 hx => ?_); replace H := H.ext hx; clear hx; (try clear w2); revert w3; intro w2 H; simp only [List.getElem_toArray, List.getElem_cons_succ, List.getElem_cons_zero, Act.put, List.setIfInBounds_toArray, List.set_cons_succ, List.set_cons_zero])) | (guard_target =~ wpTreeC _ _ _ Tr.nil _ _ _; refine treeC_nil H (fun w3 H2 => ?_); clear H; (try clear w2); revert w3; intro w2 H)))
  exact bodyPost_ret (v := .bool true) (by simp [results, Try.results4]) rfl ⟨rfl, H.below⟩
set_option maxRecDepth 200000 in
set_option maxHeartbeats 16000000 in
theorem law_SpinOut (A A2 : Option Addr) (c c2 : Nat) (vs : List Vt) (es : List Eg) (id : Int) (w : World) (hp : PlArg w A A2 c c2 vs es) :
    Calls Try.prog 5 #[.agg #[.slice A vs.length c, .slice A2 es.length c2], .int .i64 id] w fun e w' => e = .returned (.bool true) ∧ Below w.heap.size w w' := by
  obtain ⟨hs, hs2, hcv, hce, _, _⟩ := hp
  obtain ⟨F0, hF0⟩ : ∃ F0 : Nat → Prop, F0 = fun _ => False := ⟨_, rfl⟩
  have hFF : ∀ k, F0 k → k < w.heap.size := fun k h => by rw [hF0] at h; exact h.elim
  rw [← hF0] at hs hs2
  clear hF0
  obtain ⟨b0, o0, H1, f0⟩ := (Own.start w).addSl (hs.ro (by rfl))
  obtain ⟨b9, o9, H, f9⟩ := H1.addSl (hs2.ro (by rfl))
  clear hs hs2 H1
  have hfw := few16_any A A2 vs.length es.length c c2
  obtain ⟨v0, hv0⟩ : ∃ v, (decide (vs.length ≤ 40) && decide (es.length ≤ 40)) = v := ⟨_, rfl⟩
  rw [hv0] at hfw
  cases v0
  · clear hv0
    go_enter Try.func5, Try.ntmps5
    have tk0 : True := trivial
    go_wp2_with (first
      | (go_at_call 12; (with_reducible refine (hfw _).mono ?_); rintro e w3 ⟨rfl, hb⟩; replace H := H.ext hb; clear hb; dsimp only; (skip))
      | (go_at_call 13; (with_reducible refine (awake16_any _).mono ?_); rintro e w3 ⟨rfl, hb⟩; replace H := H.ext hb; clear hb; dsimp only; (skip))
      | (guard_target =~ wpList _ _ _ (_ :: _) _ _; (first | (guard_target =~ wpList _ _ _ (Oper.mk _ (.load _ _) _ _ _ _ :: _) _ _; refine BigFrame.wpList_want rfl (fun K hK => ?_); (refine o_loadNC (row := ?_) rfl rfl H ?_ ?_ ?_ (hK _ _ ?_); rotate_left 1; (repeat first | exact .head _ | apply List.Mem.tail); (focus (intro _; simp; done)); (focus (intro _; simp; done))); clear hK K) | ((guard_target =~ wpList _ _ _ (Oper.mk _ (.box _ _) _ _ _ _ :: _) _ _; refine BigFrame.wpList_want rfl (fun K hK => ?_); refine o_box rfl H rfl (fun w3 b2 he H2 => hK _ _ ?_)); clear hK K he; clear H; (try clear w2); revert w3; intro w2 H; simp [Act.eval, Value.cells, setL, List.getD] at H; (clear tk0; rename Nat => b1))); simp only [Act.put, List.setIfInBounds_toArray, List.set_cons_succ, List.set_cons_zero]))
    go_ret
    exact ⟨rfl, H.below⟩
  · have hl : vs.length ≤ 1000000 := by simp at hv0; omega
    have hl2 : es.length ≤ 1000000 := by simp at hv0; omega
    clear hv0
    have hc2 := hce.1
    have hcc := hce.2
    have h1 := fun F w h1 h2 hF => sout_any vs es A A2 vs.length es.length c c2 F id w rfl rfl h1 h2 hF hl hl2 hc2 hcc
    have h2 := fun F w h1 h2 => refRight_any vs es A A2 vs.length es.length c c2 F w rfl rfl h1 h2 hl hl2 hc2 hcc
    rw [← right_same] at h2
    have hRR : rightB vs es = true → RightP vs es := rightB_P
    generalize rightB vs es = r at h1 h2 hRR
    cases r
    · go_enter Try.func5, Try.ntmps5
      have tk0 : True := trivial
      go_wp2_with (first
        | (go_at_call 12; (with_reducible refine (hfw _).mono ?_); rintro e w3 ⟨rfl, hb⟩; replace H := H.ext hb; clear hb; dsimp only; (skip))
        | (go_at_call 13; (with_reducible refine (awake16_any _).mono ?_); rintro e w3 ⟨rfl, hb⟩; replace H := H.ext hb; clear hb; dsimp only; (skip))
        | (go_at_call 15; (with_reducible refine (plain16_any _ _ _ _ _ _ _).mono ?_); rintro e w3 ⟨rfl, hb⟩; replace H := H.ext hb; clear hb; dsimp only; (skip))
        | (go_at_call 23; (with_reducible refine (h1 (FW F0 _) _ (by exact H.giveRd m2 f0) (by exact H.giveRd m1 f9) (H.fw_lt rfl hFF)).mono ?_); rintro e w3 ⟨A3, c3, rfl, hb, s3, q3, q4⟩; replace H := H.ext hb; clear hb; obtain ⟨b3, o3, H4, f3⟩ := H.addSl s3; clear H s3; have H := H4; clear H4; dsimp only; (skip))
        | (go_at_call 16; (with_reducible refine (h2 _ _ (by exact H.giveRd m3 f0) (by exact H.giveRd m2 f9)).mono ?_); rintro e w3 ⟨rfl, hb⟩; replace H := H.ext hb; clear hb; dsimp only; (skip))
        | (guard_target =~ wpList _ _ _ (_ :: _) _ _; (first | (guard_target =~ wpList _ _ _ (Oper.mk _ (.load _ _) _ _ _ _ :: _) _ _; refine BigFrame.wpList_want rfl (fun K hK => ?_); (refine o_loadNC (row := ?_) rfl rfl H ?_ ?_ ?_ (hK _ _ ?_); rotate_left 1; (repeat first | exact .head _ | apply List.Mem.tail); (focus (intro _; simp; done)); (focus (intro _; simp; done))); clear hK K) | ((guard_target =~ wpList _ _ _ (Oper.mk _ (.box _ _) _ _ _ _ :: _) _ _; refine BigFrame.wpList_want rfl (fun K hK => ?_); refine o_box rfl H rfl (fun w3 b2 he H2 => hK _ _ ?_)); clear hK K he; clear H; (try clear w2); revert w3; intro w2 H; simp [Act.eval, Value.cells, setL, List.getD] at H; (clear tk0; rename Nat => b1))); simp only [Act.put, List.setIfInBounds_toArray, List.set_cons_succ, List.set_cons_zero]))
      exact bodyPost_ret (v := .bool true) (by simp [results, Try.results5]) rfl ⟨rfl, H.below⟩
    · have HR := Lib.hid (hRR rfl)
      clear hRR
      have h3 := fun F w h1 h2 hF => rout_any vs es A A2 vs.length es.length c c2 F id w HR.out rfl rfl h1 h2 hF
      have hL : (outZ vs es id).length ≤ 1000000 := Nat.le_trans (outZ_len _ _ _) (Nat.le_trans (few_halves HR.out) (by omega))
      simp only [if_true] at h1
      generalize outZ vs es id = L at h1 h3 hL
      have hsm := fun F w A A2 n m c c2 (hn : n = L.length) (hm : m = L.length) h h' => same_any L L A A2 n m c c2 F w hn hm h h' (by omega) (by omega)
      simp only [decide_true] at hsm
      go_enter Try.func5, Try.ntmps5
      have tk0 : True := trivial
      go_wp2_with (first
        | (go_at_call 12; (with_reducible refine (hfw _).mono ?_); rintro e w3 ⟨rfl, hb⟩; replace H := H.ext hb; clear hb; dsimp only; (skip))
        | (go_at_call 13; (with_reducible refine (awake16_any _).mono ?_); rintro e w3 ⟨rfl, hb⟩; replace H := H.ext hb; clear hb; dsimp only; (skip))
        | (go_at_call 15; (with_reducible refine (plain16_any _ _ _ _ _ _ _).mono ?_); rintro e w3 ⟨rfl, hb⟩; replace H := H.ext hb; clear hb; dsimp only; (skip))
        | (go_at_call 23; (with_reducible refine (h1 (FW F0 _) _ (by exact H.giveRd m2 f0) (by exact H.giveRd m1 f9) (H.fw_lt rfl hFF)).mono ?_); rintro e w3 ⟨A3, c3, rfl, hb, s3, q3, q4⟩; replace H := H.ext hb; clear hb; obtain ⟨b3, o3, H4, f3⟩ := H.addSl s3; clear H s3; have H := H4; clear H4; dsimp only; (skip))
        | (go_at_call 16; (with_reducible refine (h2 _ _ (by exact H.giveRd m3 f0) (by exact H.giveRd m2 f9)).mono ?_); rintro e w3 ⟨rfl, hb⟩; replace H := H.ext hb; clear hb; dsimp only; (skip))
        | (go_at_call 24; (with_reducible refine (h3 (FW F0 _) _ (by exact H.giveRd m3 f0) (by exact H.giveRd m2 f9) (H.fw_lt rfl hFF)).mono ?_); rintro e w3 ⟨A4, c4, rfl, hb, s4, q5, q6⟩; replace H := H.ext hb; clear hb; obtain ⟨b4, o4, H4, f4⟩ := H.addSl s4; clear H s4; have H := H4; clear H4; dsimp only; (skip))
        | (go_at_call 18; (with_reducible refine (hsm _ _ _ _ _ _ _ _ rfl rfl (by exact H.giveRd m1 f3) (by exact H.giveRd m0 f4)).mono ?_); rintro e w3 ⟨rfl, hb⟩; replace H := H.ext hb; clear hb; dsimp only; (skip))
        | (guard_target =~ wpList _ _ _ (_ :: _) _ _; (first | (guard_target =~ wpList _ _ _ (Oper.mk _ (.load _ _) _ _ _ _ :: _) _ _; refine BigFrame.wpList_want rfl (fun K hK => ?_); (refine o_loadNC (row := ?_) rfl rfl H ?_ ?_ ?_ (hK _ _ ?_); rotate_left 1; (repeat first | exact .head _ | apply List.Mem.tail); (focus (intro _; simp; done)); (focus (intro _; simp; done))); clear hK K) | ((guard_target =~ wpList _ _ _ (Oper.mk _ (.box _ _) _ _ _ _ :: _) _ _; refine BigFrame.wpList_want rfl (fun K hK => ?_); refine o_box rfl H rfl (fun w3 b2 he H2 => hK _ _ ?_)); clear hK K he; clear H; (try clear w2); revert w3; intro w2 H; simp [Act.eval, Value.cells, setL, List.getD] at H; (clear tk0; rename Nat => b1))); simp only [Act.put, List.setIfInBounds_toArray, List.set_cons_succ, List.set_cons_zero]))
      exact bodyPost_ret (v := .bool true) (by simp [results, Try.results5]) rfl ⟨rfl, H.below⟩
end Go.Proofs.Ytlhmjhildlnokaa
