/-
  The walks of the document's layer 3: which of two is greater, differences.
-/
import Derived.Test.YtmmieilogpmocaaRef03b
namespace Go.Proofs.Ytmmieilogpmocaa
set_option linter.unusedVariables false
set_option linter.unusedSimpArgs false
open Go.RowKit

def SizeRel (w : World) (A1 A2 : Option Addr) (b1 o1 b2 o2 : Nat) (a b : List Nat) (k : Nat) (i : Value) (wr : World) : Prop :=
  k ≤ a.length ∧ i = .int .i64 ((k : Int) - 1) ∧ a.drop k = b.drop k ∧ Own w.heap.size w wr [.rd A1 b1 o1 (dl a), .rd A2 b2 o2 (dl b)]
set_option maxRecDepth 100000 in
set_option maxHeartbeats 2000000 in
theorem size_any (F : Nat → Prop) (w : World) (hF : ∀ k, F k → k < w.heap.size) (A1 A2 : Option Addr) (c1 c2 : Nat) (a b : List Nat) (x y : Int) (ha : Sl F w A1 (dl a)) (hb : Sl F w A2 (dl b)) (ga : CnI a x) (gb : CnI b y) (la : a.length ≤ 1000) (lb : b.length ≤ 1000) :
    Calls Try.prog 98 #[.slice A1 a.length c1, .slice A2 b.length c2] w fun e w' => e = .returned (.int .i64 (cmpN x.natAbs y.natAbs)) ∧ Below w.heap.size w w' := by
  obtain ⟨b2, o2, H, f2⟩ := (Own.start w).addSl (hb.ro (by rfl))
  obtain ⟨b1, o1, H1, f1⟩ := H.addSl (ha.ro (by rfl))
  clear ha hb H
  rw [← ga.2.2, ← gb.2.2]
  by_cases hlen : a.length = b.length
  · have hl1 : decide (a.length = b.length) = true := by simpa using hlen
    have hl2 : ((a.length : Int) == (b.length : Int)) = true := by simp only [beq_iff_eq]; omega
    have hl3 : ((a.length : Int) != (b.length : Int)) = false := by simp only [bne_eq_false_iff_eq]; omega
    have HL := Lib.hid hlen
    clear hlen hl1
    have H := H1
    clear H1
    go_enter Try.func98, Try.ntmps98
    go_wp2_with (first | fail)
    clear hl2 hl3
    go_loopg [5] a.length (SizeRel w A1 A2 b1 o1 b2 o2 a b)
    case atStart => exact ⟨Nat.le_refl _, rfl, by rw [List.drop_length, HL.out, List.drop_length], H⟩
    case round =>
      clear H
      obtain ⟨hk, rfl, hd, H⟩ := hrel
      have HD := Lib.hid hd
      clear hd
      by_cases h0 : 0 < gk
      · obtain ⟨j, rfl⟩ : ∃ j, gk = j + 1 := ⟨gk - 1, by omega⟩
        have e1 : ((j + 1 : Nat) : Int) - 1 = (j : Int) := by omega
        rw [e1]
        clear e1
        have hja : j < a.length := by omega
        have hjb : j < b.length := by have := HL.out; omega
        obtain rfl := H.rdAddr m0 (by rw [dl_length]; omega)
        obtain rfl := H.rdAddr m1 (by rw [dl_length]; omega)
        obtain ⟨x, hx, bx, tx⟩ := dig_at hja ga.1
        obtain ⟨y, hy, by_, ty⟩ := dig_at hjb gb.1
        replace tx := tx (some ⟨b1, o1, none⟩) b1 o1
        replace ty := ty (some ⟨b2, o2, none⟩) b2 o2
        by_cases hlt : x < y
        · go_wp2_with (first
            | (guard_target =~ Code.wp _ (Code.region 8 _ true) _ _ _; refine region_tree0 8 (G := True) (.q 0 (.q 1 (.q 2 (.q 3 (.q 4 (.q 5 (.q 6 (.q 7 (.q 8 .nil))))))))) (by kernel_rfl) (by intro c a d v w h; cases d <;> exact h) (by kernel_rfl) H ⟨trivial⟩ (fun _ w3 H2 => ?_); (clear H; (try clear w2); revert w3; intro w2 H))
            | (guard_target =~ wpTree _ _ _ _ _ _ _; first | (guard_target =~ wpTree _ _ _ (Tr.q _ _) _ _ _; first | (refine tree_quiet ⟨_, H, by repeat first | exact .here | apply Suf.there⟩ rfl rfl rfl (fun K hK => ?_); simp only [List.getElem_toArray, List.getElem_cons_succ, List.getElem_cons_zero]; first | (guard_target =~ Oper.quiet _ (Oper.mk _ (.load _ _) _ _ _ _) _ _ _; (refine q_load (v := ?_) (r := ?_) rfl rfl ?_ ?_ ?_ (hK _ ?_); rotate_left 2; (with_reducible assumption); (repeat first | exact .head _ | apply List.Mem.tail); (focus (intro _; simp; done))); clear hK K; simp only [Act.put, List.setIfInBounds_toArray, List.set_cons_succ, List.set_cons_zero]) | (go_big_quiet_op; (try refine ⟨_, fun _ _ => rfl, ?_⟩); refine hK _ ?_; clear hK K)) | (refine tree_skip ⟨_, H, by repeat first | exact .here | apply Suf.there⟩ rfl rfl ?_; simp only [List.getElem_toArray, List.getElem_cons_succ, List.getElem_cons_zero, Act.put, List.setIfInBounds_toArray, List.set_cons_succ, List.set_cons_zero])) | (guard_target =~ wpTree _ _ _ (Tr.both _ _) _ _ _; refine tree_both ?_ ?_) | (guard_target =~ wpTree _ _ _ (Tr.e _ _) _ _ _; first | (refine tree_one rfl rfl (fun K hK => ?_); simp only [List.getElem_toArray, List.getElem_cons_succ, List.getElem_cons_zero]; first | ((first | fail); simp only [Act.put, List.setIfInBounds_toArray, List.set_cons_succ, List.set_cons_zero]) | go_big_op) | (refine tree_one_skip ⟨_, H, by repeat first | exact .here | apply Suf.there⟩ rfl rfl ?_; simp only [List.getElem_toArray, List.getElem_cons_succ, List.getElem_cons_zero, Act.put, List.setIfInBounds_toArray, List.set_cons_succ, List.set_cons_zero])) | (guard_target =~ wpTree _ _ _ Tr.nil _ _ _; refine tree_nil ?_)))
          go_ret
          refine ⟨?_, H.below⟩
          have := val_lt_of ga.1 HD.out hx.out hy.out hlt
          unfold cmpN
          rw [if_pos this]
          rfl
        · by_cases hgt : y < x
          · go_wp2_with (first
              | (guard_target =~ Code.wp _ (Code.region 8 _ true) _ _ _; refine region_tree0 8 (G := True) (.q 0 (.q 1 (.q 2 (.q 3 (.q 4 (.q 5 (.q 6 (.q 7 (.q 8 .nil))))))))) (by kernel_rfl) (by intro c a d v w h; cases d <;> exact h) (by kernel_rfl) H ⟨trivial⟩ (fun _ w3 H2 => ?_); (clear H; (try clear w2); revert w3; intro w2 H))
              | (guard_target =~ Code.wp _ (Code.region 10 _ true) _ _ _; refine region_tree0 10 (G := True) (.q 0 (.q 1 (.q 2 (.q 3 (.q 4 (.q 5 (.q 6 (.q 7 (.q 8 .nil))))))))) (by kernel_rfl) (by intro c a d v w h; cases d <;> exact h) (by kernel_rfl) H ⟨trivial⟩ (fun _ w3 H2 => ?_); (clear H; (try clear w2); revert w3; intro w2 H))
              | (guard_target =~ wpTree _ _ _ _ _ _ _; first | (guard_target =~ wpTree _ _ _ (Tr.q _ _) _ _ _; first | (refine tree_quiet ⟨_, H, by repeat first | exact .here | apply Suf.there⟩ rfl rfl rfl (fun K hK => ?_); simp only [List.getElem_toArray, List.getElem_cons_succ, List.getElem_cons_zero]; first | (guard_target =~ Oper.quiet _ (Oper.mk _ (.load _ _) _ _ _ _) _ _ _; (refine q_load (v := ?_) (r := ?_) rfl rfl ?_ ?_ ?_ (hK _ ?_); rotate_left 2; (with_reducible assumption); (repeat first | exact .head _ | apply List.Mem.tail); (focus (intro _; simp; done))); clear hK K; simp only [Act.put, List.setIfInBounds_toArray, List.set_cons_succ, List.set_cons_zero]) | (go_big_quiet_op; (try refine ⟨_, fun _ _ => rfl, ?_⟩); refine hK _ ?_; clear hK K)) | (refine tree_skip ⟨_, H, by repeat first | exact .here | apply Suf.there⟩ rfl rfl ?_; simp only [List.getElem_toArray, List.getElem_cons_succ, List.getElem_cons_zero, Act.put, List.setIfInBounds_toArray, List.set_cons_succ, List.set_cons_zero])) | (guard_target =~ wpTree _ _ _ (Tr.both _ _) _ _ _; refine tree_both ?_ ?_) | (guard_target =~ wpTree _ _ _ (Tr.e _ _) _ _ _; first | (refine tree_one rfl rfl (fun K hK => ?_); simp only [List.getElem_toArray, List.getElem_cons_succ, List.getElem_cons_zero]; first | ((first | fail); simp only [Act.put, List.setIfInBounds_toArray, List.set_cons_succ, List.set_cons_zero]) | go_big_op) | (refine tree_one_skip ⟨_, H, by repeat first | exact .here | apply Suf.there⟩ rfl rfl ?_; simp only [List.getElem_toArray, List.getElem_cons_succ, List.getElem_cons_zero, Act.put, List.setIfInBounds_toArray, List.set_cons_succ, List.set_cons_zero])) | (guard_target =~ wpTree _ _ _ Tr.nil _ _ _; refine tree_nil ?_)))
            go_ret
            refine ⟨?_, H.below⟩
            have := val_lt_of gb.1 HD.out.symm hy.out hx.out hgt
            unfold cmpN
            rw [if_neg (by omega), if_pos this]
            rfl
          · go_wp2_with (first
              | (guard_target =~ Code.wp _ (Code.region 8 _ true) _ _ _; refine region_tree0 8 (G := True) (.q 0 (.q 1 (.q 2 (.q 3 (.q 4 (.q 5 (.q 6 (.q 7 (.q 8 .nil))))))))) (by kernel_rfl) (by intro c a d v w h; cases d <;> exact h) (by kernel_rfl) H ⟨trivial⟩ (fun _ w3 H2 => ?_); (clear H; (try clear w2); revert w3; intro w2 H))
              | (guard_target =~ Code.wp _ (Code.region 10 _ true) _ _ _; refine region_tree0 10 (G := True) (.q 0 (.q 1 (.q 2 (.q 3 (.q 4 (.q 5 (.q 6 (.q 7 (.q 8 .nil))))))))) (by kernel_rfl) (by intro c a d v w h; cases d <;> exact h) (by kernel_rfl) H ⟨trivial⟩ (fun _ w3 H2 => ?_); (clear H; (try clear w2); revert w3; intro w2 H))
              | (guard_target =~ wpTree _ _ _ _ _ _ _; first | (guard_target =~ wpTree _ _ _ (Tr.q _ _) _ _ _; first | (refine tree_quiet ⟨_, H, by repeat first | exact .here | apply Suf.there⟩ rfl rfl rfl (fun K hK => ?_); simp only [List.getElem_toArray, List.getElem_cons_succ, List.getElem_cons_zero]; first | (guard_target =~ Oper.quiet _ (Oper.mk _ (.load _ _) _ _ _ _) _ _ _; (refine q_load (v := ?_) (r := ?_) rfl rfl ?_ ?_ ?_ (hK _ ?_); rotate_left 2; (with_reducible assumption); (repeat first | exact .head _ | apply List.Mem.tail); (focus (intro _; simp; done))); clear hK K; simp only [Act.put, List.setIfInBounds_toArray, List.set_cons_succ, List.set_cons_zero]) | (go_big_quiet_op; (try refine ⟨_, fun _ _ => rfl, ?_⟩); refine hK _ ?_; clear hK K)) | (refine tree_skip ⟨_, H, by repeat first | exact .here | apply Suf.there⟩ rfl rfl ?_; simp only [List.getElem_toArray, List.getElem_cons_succ, List.getElem_cons_zero, Act.put, List.setIfInBounds_toArray, List.set_cons_succ, List.set_cons_zero])) | (guard_target =~ wpTree _ _ _ (Tr.both _ _) _ _ _; refine tree_both ?_ ?_) | (guard_target =~ wpTree _ _ _ (Tr.e _ _) _ _ _; first | (refine tree_one rfl rfl (fun K hK => ?_); simp only [List.getElem_toArray, List.getElem_cons_succ, List.getElem_cons_zero]; first | ((first | fail); simp only [Act.put, List.setIfInBounds_toArray, List.set_cons_succ, List.set_cons_zero]) | go_big_op) | (refine tree_one_skip ⟨_, H, by repeat first | exact .here | apply Suf.there⟩ rfl rfl ?_; simp only [List.getElem_toArray, List.getElem_cons_succ, List.getElem_cons_zero, Act.put, List.setIfInBounds_toArray, List.set_cons_succ, List.set_cons_zero])) | (guard_target =~ wpTree _ _ _ Tr.nil _ _ _; refine tree_nil ?_)))
            go_roundg j
            case rel =>
              refine ⟨by omega, rfl, drop_eq_succ HD.out hja hjb ?_, H⟩
              rw [hx.out, hy.out]; omega
            case measure => omega
      · obtain rfl : gk = 0 := by omega
        have e1 : ((0 : Nat) : Int) - 1 = -1 := rfl
        rw [e1]
        go_wp2_with (first | fail)
        go_ret
        refine ⟨?_, H.below⟩
        have := HD.out
        simp only [List.drop_zero] at this
        rw [this]
        unfold cmpN
        rw [if_neg (by omega), if_neg (by omega)]
        rfl
  · have hl2 : ((a.length : Int) == (b.length : Int)) = false := by simp only [beq_eq_false_iff_ne, ne_eq]; omega
    have hl3 : ((a.length : Int) != (b.length : Int)) = true := by simp only [bne_iff_ne, ne_eq]; omega
    have H := H1
    clear H1
    by_cases hlt : a.length < b.length
    · have hv := len_val ga gb hlt
      have hr : cmpN (val a) (val b) = -1 := by unfold cmpN; rw [if_pos hv]
      rw [hr]
      clear hv hr hlen
      go_enter Try.func98, Try.ntmps98
      go_wp2_with (first | fail)
      go_ret
      exact ⟨rfl, H.below⟩
    · have hv := len_val gb ga (by omega)
      have hr : cmpN (val a) (val b) = 1 := by unfold cmpN; rw [if_neg (by omega), if_pos hv]
      rw [hr]
      clear hv hr
      go_enter Try.func98, Try.ntmps98
      go_wp2_with (first | fail)
      go_ret
      exact ⟨rfl, H.below⟩
def MinusRel (F : Nat → Prop) (w : World) (A1 A2 : Option Addr) (b1 o1 b2 o2 : Nat) (a b : List Nat) (k : Nat) (out cy i : Value) (wr : World) : Prop :=
  ∃ l c, k + l.length = a.length ∧ i = .int .i64 (l.length : Int) ∧ cy = .int .i64 ((c : Nat) : Int) ∧ c ≤ 1 ∧ Dg l ∧ val l + val (b.take l.length) = val (a.take l.length) + 65536 ^ l.length * c ∧
    Own w.heap.size w wr [.grow 3 1 out l.length (dl l), .rd A1 b1 o1 (dl a), .rd A2 b2 o2 (dl b)]
theorem minus_close {F : Nat → Prop} {w w2 : World} {A1 A2 : Option Addr} {b1 o1 b2 o2 : Nat} {a b l : List Nat} {gk c d e x y : Nat} {v2 : Value} {e1 e3 : Int} {cv : Value} {r0 : Res}
    (hk : gk + l.length = a.length) (gl : Dg l) (hv : val l + val (b.take l.length) = val (a.take l.length) + 65536 ^ l.length * c) (h0 : 0 < gk)
    (hx : a.getD l.length 0 = x) (hy : b.getD l.length 0 = y) (hd : d + y + c = x + 65536 * e) (bd : d < 65536) (be : e ≤ 1) (q1 : e1 = (d : Int)) (q2 : cv = .int .i64 ((e : Nat) : Int)) (q3 : e3 = (l.length : Int) + 1)
    (H : Own w.heap.size w w2 [r0, .grow 3 1 v2 (l.length + 1) (dl l ++ [.int .i64 e1]), .rd A1 b1 o1 (dl a), .rd A2 b2 o2 (dl b)]) :
    MinusRel F w A1 A2 b1 o1 b2 o2 a b (gk - 1) v2 cv (.int .i64 e3) w2 := by
  refine ⟨l ++ [d], e, by simp; omega, by rw [q3]; simp, q2, be, gl.snoc bd, ?_, ?_⟩
  · rw [List.length_append]
    exact minus_step a b l l.length c d e x y rfl hv hx hy hd
  · have := H.tail
    rw [List.length_append, dl_append]
    rw [q1] at this
    exact this
set_option maxRecDepth 100000 in
set_option maxHeartbeats 4000000 in
theorem minus_any (F : Nat → Prop) (w : World) (hF : ∀ k, F k → k < w.heap.size) (A1 A2 : Option Addr) (c1 c2 : Nat) (a b : List Nat) (ha : Sl F w A1 (dl a)) (hb : Sl F w A2 (dl b)) (ga : Dg a) (gb : Dg b) (la : a.length ≤ 1000) (lb : b.length ≤ a.length) (hle : val b ≤ val a) :
    Calls Try.prog 100 #[.slice A1 a.length c1, .slice A2 b.length c2] w (RetD F w (val a - val b) a.length) := by
  have HLE := Lib.hid hle
  clear hle
  obtain ⟨b2, o2, H, f2⟩ := (Own.start w).addSl (hb.ro (by rfl))
  obtain ⟨b1, o1, H1, f1⟩ := H.addSl (ha.ro (by rfl))
  clear ha hb H
  go_enter Try.func100, Try.ntmps100
  go_wp2
  go_loopg [5, 6, 7] a.length (MinusRel F w A1 A2 b1 o1 b2 o2 a b)
  case atStart =>
    exact ⟨[], 0, by simp, rfl, rfl, by omega, Dg.nil, by simp [val], H1.grow_nil _ 1⟩
  case round =>
    clear H1
    obtain ⟨l, c, hk, rfl, rfl, hc, gl, gv, H⟩ := hrel
    have hv := Lib.hid gv
    clear gv
    by_cases h0 : 0 < gk
    · have h1 : l.length < a.length := by omega
      obtain rfl := H.rdAddr m1 (by rw [dl_length]; omega)
      obtain ⟨x, hx, bx, tx⟩ := dig_at h1 ga
      replace tx := tx (some ⟨b1, o1, none⟩) b1 o1
      by_cases h2 : l.length < b.length
      · obtain rfl := H.rdAddr m2 (by rw [dl_length]; omega)
        obtain ⟨y, hy, by_, ty⟩ := dig_at h2 gb
        replace ty := ty (some ⟨b2, o2, none⟩) b2 o2
        by_cases hn : x < c + y
        · have hn' : (x : Int) - c - y < 0 := by omega
          go_wp2_with (guard_target =~ wpList _ _ _ (_ :: _) _ _; (first | (guard_target =~ wpList _ _ _ (Oper.mk _ (.call { callee := .builtin .append, args := _, argTypes := _ }) _ _ _ _ :: _) _ _; refine BigFrame.wpList_want rfl (fun K hK => ?_); refine o_append (row := ?_) (n := ?_) (xs := ?_) (l' := ?_) Try.infoInt rfl rfl rfl H ?_ rfl ?_ ?_ (by kernel_rfl) rfl (by decide) ?_ ?_ ?_ (fun v2 w3 H2 hn => hK _ _ ?_); rotate_left 4; (repeat first | exact .head _ | apply List.Mem.tail); (focus (simp; done)); (focus (intro _; (exact r1))); exact rfl; exact (by unfold maxLen; omega); exact (by omega); clear hK K hn; clear H; (try clear w2); revert w3; intro w2 H; simp only [List.take_succ_cons, List.take_zero, Nat.one_mul] at H) | (guard_target =~ wpList _ _ _ (Oper.mk _ (.load _ _) _ _ _ _ :: _) _ _; refine BigFrame.wpList_want rfl (fun K hK => ?_); (refine o_load (v := ?_) (r := ?_) rfl rfl H ?_ ?_ ?_ (hK _ _ ?_); rotate_left 2; (with_reducible assumption); (repeat first | exact .head _ | apply List.Mem.tail); (focus (intro _; simp; done))); clear hK K) | ((guard_target =~ wpList _ _ _ (Oper.mk _ (.buildSlice _ _ _) _ _ _ _ :: _) _ _; refine BigFrame.wpList_want rfl (fun K hK => ?_); refine o_buildSlice (C := ?_) (E := ?_) rfl rfl H ?_ rfl (fun w3 b2 he H2 => hK _ _ ?_); rotate_left 2; (focus (intro _; simp [go_sem, Instr.buildSlice]; with_reducible exact rfl))); clear hK K he; clear H; (try clear w2); revert w3; intro w2 H; simp [Act.eval, Value.cells, setL, List.getD] at H)); simp only [Act.put, List.setIfInBounds_toArray, List.set_cons_succ, List.set_cons_zero])
          go_roundg (gk - 1)
          case rel => exact minus_close (d := (x + 65536 - c - y)) (e := 1) hk gl hv.out h0 hx.out hy.out (by omega) (by omega) (by omega) (by omega) rfl (by omega) H
          case measure => omega
        · have hn' : ¬ (x : Int) - c - y < 0 := by omega
          go_wp2_with (guard_target =~ wpList _ _ _ (_ :: _) _ _; (first | (guard_target =~ wpList _ _ _ (Oper.mk _ (.call { callee := .builtin .append, args := _, argTypes := _ }) _ _ _ _ :: _) _ _; refine BigFrame.wpList_want rfl (fun K hK => ?_); refine o_append (row := ?_) (n := ?_) (xs := ?_) (l' := ?_) Try.infoInt rfl rfl rfl H ?_ rfl ?_ ?_ (by kernel_rfl) rfl (by decide) ?_ ?_ ?_ (fun v2 w3 H2 hn => hK _ _ ?_); rotate_left 4; (repeat first | exact .head _ | apply List.Mem.tail); (focus (simp; done)); (focus (intro _; (exact r1))); exact rfl; exact (by unfold maxLen; omega); exact (by omega); clear hK K hn; clear H; (try clear w2); revert w3; intro w2 H; simp only [List.take_succ_cons, List.take_zero, Nat.one_mul] at H) | (guard_target =~ wpList _ _ _ (Oper.mk _ (.load _ _) _ _ _ _ :: _) _ _; refine BigFrame.wpList_want rfl (fun K hK => ?_); (refine o_load (v := ?_) (r := ?_) rfl rfl H ?_ ?_ ?_ (hK _ _ ?_); rotate_left 2; (with_reducible assumption); (repeat first | exact .head _ | apply List.Mem.tail); (focus (intro _; simp; done))); clear hK K) | ((guard_target =~ wpList _ _ _ (Oper.mk _ (.buildSlice _ _ _) _ _ _ _ :: _) _ _; refine BigFrame.wpList_want rfl (fun K hK => ?_); refine o_buildSlice (C := ?_) (E := ?_) rfl rfl H ?_ rfl (fun w3 b2 he H2 => hK _ _ ?_); rotate_left 2; (focus (intro _; simp [go_sem, Instr.buildSlice]; with_reducible exact rfl))); clear hK K he; clear H; (try clear w2); revert w3; intro w2 H; simp [Act.eval, Value.cells, setL, List.getD] at H)); simp only [Act.put, List.setIfInBounds_toArray, List.set_cons_succ, List.set_cons_zero])
          go_roundg (gk - 1)
          case rel => exact minus_close (d := (x - c - y)) (e := 0) hk gl hv.out h0 hx.out hy.out (by omega) (by omega) (by omega) (by omega) rfl (by omega) H
          case measure => omega
      · by_cases hn : x < c
        · have hn' : (x : Int) - c < 0 := by omega
          go_wp2_with (guard_target =~ wpList _ _ _ (_ :: _) _ _; (first | (guard_target =~ wpList _ _ _ (Oper.mk _ (.call { callee := .builtin .append, args := _, argTypes := _ }) _ _ _ _ :: _) _ _; refine BigFrame.wpList_want rfl (fun K hK => ?_); refine o_append (row := ?_) (n := ?_) (xs := ?_) (l' := ?_) Try.infoInt rfl rfl rfl H ?_ rfl ?_ ?_ (by kernel_rfl) rfl (by decide) ?_ ?_ ?_ (fun v2 w3 H2 hn => hK _ _ ?_); rotate_left 4; (repeat first | exact .head _ | apply List.Mem.tail); (focus (simp; done)); (focus (intro _; (exact r1))); exact rfl; exact (by unfold maxLen; omega); exact (by omega); clear hK K hn; clear H; (try clear w2); revert w3; intro w2 H; simp only [List.take_succ_cons, List.take_zero, Nat.one_mul] at H) | (guard_target =~ wpList _ _ _ (Oper.mk _ (.load _ _) _ _ _ _ :: _) _ _; refine BigFrame.wpList_want rfl (fun K hK => ?_); (refine o_load (v := ?_) (r := ?_) rfl rfl H ?_ ?_ ?_ (hK _ _ ?_); rotate_left 2; (with_reducible assumption); (repeat first | exact .head _ | apply List.Mem.tail); (focus (intro _; simp; done))); clear hK K) | ((guard_target =~ wpList _ _ _ (Oper.mk _ (.buildSlice _ _ _) _ _ _ _ :: _) _ _; refine BigFrame.wpList_want rfl (fun K hK => ?_); refine o_buildSlice (C := ?_) (E := ?_) rfl rfl H ?_ rfl (fun w3 b2 he H2 => hK _ _ ?_); rotate_left 2; (focus (intro _; simp [go_sem, Instr.buildSlice]; with_reducible exact rfl))); clear hK K he; clear H; (try clear w2); revert w3; intro w2 H; simp [Act.eval, Value.cells, setL, List.getD] at H)); simp only [Act.put, List.setIfInBounds_toArray, List.set_cons_succ, List.set_cons_zero])
          go_roundg (gk - 1)
          case rel => exact minus_close (d := (x + 65536 - c - 0)) (e := 1) hk gl hv.out h0 hx.out (getD_past h2) (by omega) (by omega) (by omega) (by omega) rfl (by omega) H
          case measure => omega
        · have hn' : ¬ (x : Int) - c < 0 := by omega
          go_wp2_with (guard_target =~ wpList _ _ _ (_ :: _) _ _; (first | (guard_target =~ wpList _ _ _ (Oper.mk _ (.call { callee := .builtin .append, args := _, argTypes := _ }) _ _ _ _ :: _) _ _; refine BigFrame.wpList_want rfl (fun K hK => ?_); refine o_append (row := ?_) (n := ?_) (xs := ?_) (l' := ?_) Try.infoInt rfl rfl rfl H ?_ rfl ?_ ?_ (by kernel_rfl) rfl (by decide) ?_ ?_ ?_ (fun v2 w3 H2 hn => hK _ _ ?_); rotate_left 4; (repeat first | exact .head _ | apply List.Mem.tail); (focus (simp; done)); (focus (intro _; (exact r1))); exact rfl; exact (by unfold maxLen; omega); exact (by omega); clear hK K hn; clear H; (try clear w2); revert w3; intro w2 H; simp only [List.take_succ_cons, List.take_zero, Nat.one_mul] at H) | (guard_target =~ wpList _ _ _ (Oper.mk _ (.load _ _) _ _ _ _ :: _) _ _; refine BigFrame.wpList_want rfl (fun K hK => ?_); (refine o_load (v := ?_) (r := ?_) rfl rfl H ?_ ?_ ?_ (hK _ _ ?_); rotate_left 2; (with_reducible assumption); (repeat first | exact .head _ | apply List.Mem.tail); (focus (intro _; simp; done))); clear hK K) | ((guard_target =~ wpList _ _ _ (Oper.mk _ (.buildSlice _ _ _) _ _ _ _ :: _) _ _; refine BigFrame.wpList_want rfl (fun K hK => ?_); refine o_buildSlice (C := ?_) (E := ?_) rfl rfl H ?_ rfl (fun w3 b2 he H2 => hK _ _ ?_); rotate_left 2; (focus (intro _; simp [go_sem, Instr.buildSlice]; with_reducible exact rfl))); clear hK K he; clear H; (try clear w2); revert w3; intro w2 H; simp [Act.eval, Value.cells, setL, List.getD] at H)); simp only [Act.put, List.setIfInBounds_toArray, List.set_cons_succ, List.set_cons_zero])
          go_roundg (gk - 1)
          case rel => exact minus_close (d := (x - c - 0)) (e := 0) hk gl hv.out h0 hx.out (getD_past h2) (by omega) (by omega) (by omega) (by omega) rfl (by omega) H
          case measure => omega
    · obtain rfl : gk = 0 := by omega
      have e1 : l.length = a.length := by omega
      go_wp2_with (first | fail)
      go_ret
      obtain ⟨A, cap, rfl, hcap, hmax, hs⟩ := H.giveGrow m0 hF
      refine ⟨A, cap, l, rfl, H.below, hs, gl, ?_, by omega, hcap, hmax⟩
      have h4 := hv.out
      rw [val_take_all a _ (by omega), val_take_all b _ (by omega)] at h4
      have h5 := val_lt gl
      have h6 := HLE.out
      have h7 : c = 0 := by
        rcases Nat.lt_or_ge 0 c with h | h
        · have : c = 1 := by omega
          subst this
          omega
        · omega
      subst h7
      omega
end Go.Proofs.Ytmmieilogpmocaa
