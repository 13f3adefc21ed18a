/-
  The walks of the document's layer 3: negatives, sums.
-/
import Derived.Test.YtmmieilogpmocaaRef03c
namespace Go.Proofs.Ytmmieilogpmocaa
set_option linter.unusedVariables false
set_option linter.unusedSimpArgs false
open Go.RowKit

/-- A number as the document has it. -/
def numV (z : Int) (A : Option Addr) (l : List Nat) (c : Nat) : Value := .agg #[.bool (decide (z < 0)), .slice A l.length c]
theorem natAbs_sgn {z : Int} {l : List Nat} (h : CnI l z) : sgn (decide (z < 0)) (val l) = z := by
  rw [h.2.2]; unfold sgn; split <;> simp_all <;> omega
theorem neg_plain {z : Int} {l : List Nat} (h : CnI l z) : sgn (!decide (z < 0)) (val l) = -z := by
  rw [h.2.2]; unfold sgn; split <;> simp_all <;> omega
set_option maxRecDepth 100000 in
set_option maxHeartbeats 2000000 in
theorem refNeg_any (F : Nat → Prop) (w : World) (hF : ∀ k, F k → k < w.heap.size) (A : Option Addr) (c : Nat) (l : List Nat) (z : Int) (ha : Sl F w A (dl l)) (g : CnI l z) (hl : l.length ≤ 1000) (hc : l.length ≤ c) (hm : c ≤ maxLen) :
    Calls Try.prog 81 #[.agg #[.bool (decide (z < 0)), .slice A l.length c]] w (RetN F w (-z)) := by
  have g1 := g.1
  obtain ⟨b1, o1, H, f1⟩ := (Own.start w).addSl (ha.ro (by rfl))
  clear ha
  obtain ⟨s, hs⟩ : ∃ s, decide (z < 0) = s := ⟨_, rfl⟩
  have hz := neg_plain g
  rw [hs] at hz ⊢
  rw [← hz]
  clear hz hs
  go_enter Try.func81, Try.ntmps81
  have tk0 : True := trivial
  have tk1 : True := trivial
  go_wp2_with (first
    | (go_at_call 97; (with_reducible refine (trim_any (FW F _) _ (H.fw_lt rfl hF) _ _ _ l (H.giveRd m2 f1) g1 hl hc hm).mono ?_); rintro e w3 ⟨A2, c2, l2, rfl, hb, s2, g2, k2, k3⟩; replace H := H.ext hb; clear hb; obtain ⟨b4, o4, H4, f4⟩ := H.addSl s2; clear H s2; have H := H4; clear H4; dsimp only; (skip))
    | (guard_target =~ wpList _ _ _ (_ :: _) _ _; (first | (guard_target =~ wpList _ _ _ (Oper.mk _ (.load _ _) _ _ _ _ :: _) _ _; refine BigFrame.wpList_want rfl (fun K hK => ?_); (refine o_loadC (v := ?_) (row := ?_) rfl rfl H ?_ ?_ ?_ (hK _ _ ?_); rotate_left 2; (repeat first | exact .head _ | apply List.Mem.tail); (exact rfl); (focus (intro _; simp; done))); clear hK K) | (guard_target =~ wpList _ _ _ (Oper.mk _ (.store _ _ _) _ _ _ _ :: _) _ _; refine BigFrame.wpList_want rfl (fun K hK => ?_); refine o_store (l' := ?_) (row := ?_) rfl rfl H rfl ?_ ?_ ?_ ?_ (fun w3 H2 => hK _ _ ?_); rotate_left 2; (exact r1); (focus (intro _; simp [Act.eval, Value.cells]; done)); (focus (simp [Act.eval, Value.cells]; done)); (exact rfl); clear hK K; clear H; (try clear w2); revert w3; intro w2 H; simp [Act.eval, Value.cells, setL, List.getD] at H) | ((first | (guard_target =~ wpList _ _ _ (Oper.mk _ (.alloc _) _ _ _ _ :: _) _ _; refine BigFrame.wpList_want rfl (fun K hK => ?_); refine o_alloc (z := ?_) rfl ?_ H rfl (fun w3 b2 he H2 => hK _ _ ?_); rotate_left 1; (focus (intro _; simp; with_reducible exact rfl))) | (guard_target =~ wpList _ _ _ (Oper.mk _ (.box _ _) _ _ _ _ :: _) _ _; refine BigFrame.wpList_want rfl (fun K hK => ?_); refine o_box rfl H rfl (fun w3 b2 he H2 => hK _ _ ?_))); clear hK K he; clear H; (try clear w2); revert w3; intro w2 H; simp [Act.eval, Value.cells, setL, List.getD] at H; (first | (clear tk0; rename Nat => b2) | (clear tk1; rename Nat => b3)))); simp only [Act.put, List.setIfInBounds_toArray, List.set_cons_succ, List.set_cons_zero]))
  have hr := H.loadVarN (P := Try.prog) (ty := 71) m1 (by simp) (by simp)
  exact bodyPost_ret (v := .agg #[.bool (decide (sgn (!s) (val l) < 0)), .slice A2 l2.length c2]) (by simp [results, Try.results81, asAddr, hr]) rfl ⟨A2, c2, l2, rfl, H.below, (H.giveRd m0 f4).fw, g2, k2, k3⟩
/-- The sum, by signs and digits. -/
theorem add_same {x y : Int} {a b : List Nat} (ga : CnI a x) (gb : CnI b y) (h : decide (x < 0) = decide (y < 0)) : sgn (decide (x < 0)) (val a + val b) = x + y := by
  rw [ga.2.2, gb.2.2]; unfold sgn
  by_cases hx : x < 0 <;> by_cases hy : y < 0 <;> simp [hx, hy] at h ⊢ <;> omega
theorem add_more {x y : Int} {a b : List Nat} (ga : CnI a x) (gb : CnI b y) (h : decide (x < 0) ≠ decide (y < 0)) (hle : val b ≤ val a) : sgn (decide (x < 0)) (val a - val b) = x + y := by
  rw [ga.2.2, gb.2.2] at *; unfold sgn
  by_cases hx : x < 0 <;> by_cases hy : y < 0 <;> simp [hx, hy] at h ⊢ <;> omega
theorem add_less {x y : Int} {a b : List Nat} (ga : CnI a x) (gb : CnI b y) (h : decide (x < 0) ≠ decide (y < 0)) (hle : val a ≤ val b) : sgn (decide (y < 0)) (val b - val a) = x + y := by
  rw [ga.2.2, gb.2.2] at *; unfold sgn
  by_cases hx : x < 0 <;> by_cases hy : y < 0 <;> simp [hx, hy] at h ⊢ <;> omega
theorem len_le_of_val {l m : List Nat} {x y : Int} (hl : CnI l x) (hm : CnI m y) (h : val l ≤ val m) : l.length ≤ m.length := by
  rcases Nat.lt_or_ge m.length l.length with h' | h'
  · have := len_val hm hl h'; omega
  · exact h'
set_option maxRecDepth 100000 in
set_option maxHeartbeats 4000000 in
theorem refAdd_any (F : Nat → Prop) (w : World) (hF : ∀ k, F k → k < w.heap.size) (A1 A2 : Option Addr) (c1 c2 : Nat) (a b : List Nat) (x y : Int) (ha : Sl F w A1 (dl a)) (hb : Sl F w A2 (dl b)) (ga : CnI a x) (gb : CnI b y) (la : a.length ≤ 900) (lb : b.length ≤ 900)
    (ma : a.length ≤ c1) (mb : b.length ≤ c2) :
    Calls Try.prog 70 #[.agg #[.bool (decide (x < 0)), .slice A1 a.length c1], .agg #[.bool (decide (y < 0)), .slice A2 b.length c2]] w (RetN F w (x + y)) := by
  obtain ⟨b2, o2, H2, f2⟩ := (Own.start w).addSl (hb.ro (by rfl))
  obtain ⟨b1, o1, H, f1⟩ := H2.addSl (ha.ro (by rfl))
  clear ha hb H2
  have ga1 := ga.1
  have gb1 := gb.1
  have A1' := @add_same x y a b ga gb
  have A2' := @add_more x y a b ga gb
  have A3' := @add_less x y a b ga gb
  have gav := ga.2.2
  have gbv := gb.2.2
  obtain ⟨s, hs⟩ : ∃ s, decide (x < 0) = s := ⟨_, rfl⟩
  obtain ⟨t, ht⟩ : ∃ t, decide (y < 0) = t := ⟨_, rfl⟩
  rw [hs, ht] at A1' A2' A3'
  rw [hs, ht]
  by_cases hst : s = t
  · have hz := A1' hst
    rw [← hz]
    subst hst
    clear A1' A2' A3' hz hs ht gav gbv
    go_enter Try.func70, Try.ntmps70
    have tk0 : True := trivial
    have tk1 : True := trivial
    have tk2 : True := trivial
    go_wp2_with (first
      | (guard_target =~ Code.wp _ (Code.region 2 _ true) _ _ _; refine region_tree 2 1 (G := True) (.q 0 (.q 1 (.q 2 (.q 3 (.q 4 (.q 5 (.e 6 (.q 7 (.e 8 (.e 9 .nil)))))))))) (by kernel_rfl) (by intro c a d v w h; cases d <;> exact h) (by kernel_rfl) H ⟨trivial⟩ (fun _ w3 H2 => ?_); (clear H; (try clear w2); revert w3; intro w2 H); simp only [List.drop_succ_cons, List.drop_zero])
      | (go_at_call 99; (with_reducible refine (plus_any (FW F _) _ (H.fw_lt rfl hF) _ _ _ _ a b (H.giveRd m3 f1) (H.giveRd m4 f2) ga1 gb1 (by omega) (by omega)).mono ?_); rintro e w3 ⟨A3, c5, l3, rfl, hb, s3, g3, k3, k4, k5, k8⟩; replace H := H.ext hb; clear hb; obtain ⟨b5, o5, H4, f5⟩ := H.addSl s3; clear H s3; have H := H4; clear H4; dsimp only; (refine hK _ _ ⟨_, H, by repeat first | exact .here | apply Suf.there⟩ ?_; clear hK K; (try simp only [Act.put, List.setIfInBounds_toArray, List.set_cons_succ, List.set_cons_zero])))
      | (go_at_call 97; (with_reducible refine (trim_any (FW F _) _ (H.fw_lt rfl hF) _ _ _ l3 (H.giveRd m0 f5) g3 (by omega) k5 k8).mono ?_); rintro e w3 ⟨A4, c6, l4, rfl, hb, s4, g4, k6, k7⟩; replace H := H.ext hb; clear hb; obtain ⟨b6, o6, H4, f6⟩ := H.addSl s4; clear H s4; have H := H4; clear H4; dsimp only; (refine hK _ _ ⟨_, H, by repeat first | exact .here | apply Suf.there⟩ ?_; clear hK K; (try simp only [Act.put, List.setIfInBounds_toArray, List.set_cons_succ, List.set_cons_zero])))
      | (guard_target =~ wpList _ _ _ (_ :: _) _ _; (first | (guard_target =~ wpList _ _ _ (Oper.mk _ (.load _ _) _ _ _ _ :: _) _ _; refine BigFrame.wpList_want rfl (fun K hK => ?_); (refine o_loadC (v := ?_) (row := ?_) rfl rfl H ?_ ?_ ?_ (hK _ _ ?_); rotate_left 2; (repeat first | exact .head _ | apply List.Mem.tail); (exact rfl); (focus (intro _; simp; done))); clear hK K) | ((first | (guard_target =~ wpList _ _ _ (Oper.mk _ (.alloc _) _ _ _ _ :: _) _ _; refine BigFrame.wpList_want rfl (fun K hK => ?_); refine o_alloc (z := ?_) rfl ?_ H rfl (fun w3 b2 he H2 => hK _ _ ?_); rotate_left 1; (focus (intro _; simp; with_reducible exact rfl))) | (guard_target =~ wpList _ _ _ (Oper.mk _ (.box _ _) _ _ _ _ :: _) _ _; refine BigFrame.wpList_want rfl (fun K hK => ?_); refine o_box rfl H rfl (fun w3 b2 he H2 => hK _ _ ?_))); clear hK K he; clear H; (try clear w2); revert w3; intro w2 H; simp [Act.eval, Value.cells, setL, List.getD] at H; (first | (clear tk0; rename Nat => d2) | (clear tk1; rename Nat => d3) | (clear tk2; rename Nat => d4)))); simp only [Act.put, List.setIfInBounds_toArray, List.set_cons_succ, List.set_cons_zero])
      | (guard_target =~ wpTree _ _ _ _ _ _ _; first | (guard_target =~ wpTree _ _ _ (Tr.q _ _) _ _ _; first | (refine tree_quiet ⟨_, H, by repeat first | exact .here | apply Suf.there⟩ rfl rfl rfl (fun K hK => ?_); simp only [List.getElem_toArray, List.getElem_cons_succ, List.getElem_cons_zero]; first | (guard_target =~ Oper.quiet _ (Oper.mk _ (.load _ _) _ _ _ _) _ _ _; (refine q_loadC (v := ?_) (row := ?_) rfl rfl ?_ ?_ ?_ (hK _ ?_); rotate_left 2; (repeat first | exact .head _ | apply List.Mem.tail); (exact rfl); (focus (intro _; simp; done))); clear hK K; simp only [Act.put, List.setIfInBounds_toArray, List.set_cons_succ, List.set_cons_zero]) | (go_big_quiet_op; (try refine ⟨_, fun _ _ => rfl, ?_⟩); refine hK _ ?_; clear hK K)) | (refine tree_skip ⟨_, H, by repeat first | exact .here | apply Suf.there⟩ rfl rfl ?_; simp only [List.getElem_toArray, List.getElem_cons_succ, List.getElem_cons_zero, Act.put, List.setIfInBounds_toArray, List.set_cons_succ, List.set_cons_zero])) | (guard_target =~ wpTree _ _ _ (Tr.both _ _) _ _ _; refine tree_both ?_ ?_) | (guard_target =~ wpTree _ _ _ (Tr.e _ _) _ _ _; first | (refine tree_one rfl rfl (fun K hK => ?_); simp only [List.getElem_toArray, List.getElem_cons_succ, List.getElem_cons_zero]; first | ((guard_target =~ Oper.wp _ (Oper.mk _ (.store _ _ _) _ _ _ _) _ _ _ _; refine o_store (l' := ?_) (row := ?_) rfl rfl H rfl ?_ ?_ ?_ ?_ (fun w3 H2 => hK _ _ ⟨_, H2, ?_⟩ ?_); rotate_left 2; (exact r2); (focus (intro _; simp [Act.eval, Value.cells]; done)); (focus (simp [Act.eval, Value.cells]; done)); (exact rfl); (guard_target =~ Suf _ _; repeat first | exact .here | apply Suf.there); clear hK K; clear H; (try clear w2); revert w3; intro w2 H; simp [Act.eval, Value.cells, setL, List.getD] at H); simp only [Act.put, List.setIfInBounds_toArray, List.set_cons_succ, List.set_cons_zero]) | go_big_op) | (refine tree_one_skip ⟨_, H, by repeat first | exact .here | apply Suf.there⟩ rfl rfl ?_; simp only [List.getElem_toArray, List.getElem_cons_succ, List.getElem_cons_zero, Act.put, List.setIfInBounds_toArray, List.set_cons_succ, List.set_cons_zero])) | (guard_target =~ wpTree _ _ _ Tr.nil _ _ _; refine tree_nil ?_)))
    have hr := H.loadVarN (P := Try.prog) (ty := 71) m2 (by simp) (by simp)
    exact bodyPost_ret (v := .agg #[.bool (decide (sgn s (val l3) < 0)), .slice A4 l4.length c6]) (by simp [results, Try.results70, asAddr, hr]) rfl ⟨A4, c6, l4, by rw [← k3], H.below, (H.giveRd m0 f6).fw, by rw [← k3]; exact g4, k6, k7⟩
  · have hz1 := A2' hst
    have hz2 := A3' hst
    have hst1 : (s == t) = false := by simpa using hst
    have hst2 : decide (s = t) = false := by simpa using hst
    clear A1' A2' A3' hs ht
    by_cases hle : val b ≤ val a
    · have hz := hz1 hle
      rw [← hz]
      have HLE := Lib.hid hle
      have HLEN := Lib.hid (len_le_of_val gb ga hle)
      obtain ⟨q, hq⟩ : ∃ q, cmpN x.natAbs y.natAbs = q := ⟨_, rfl⟩
      have hq0 : decide ((0 : Int) ≤ q) = true := by
        rw [← hq, ← gav, ← gbv]; unfold cmpN; rw [if_neg (by omega)]; split <;> simp
      have HS : ∀ (F : Nat → Prop) (w : World) (hF : ∀ k, F k → k < w.heap.size) (A1 A2 : Option Addr) (c1 c2 : Nat) (ha : Sl F w A1 (dl a)) (hb : Sl F w A2 (dl b)), Calls Try.prog 98 #[.slice A1 a.length c1, .slice A2 b.length c2] w fun e w' => e = .returned (.int .i64 q) ∧ Below w.heap.size w w' := by
        intro F w hF A1 A2 c1 c2 ha hb
        rw [← hq]
        exact size_any F w hF A1 A2 c1 c2 a b x y ha hb ga gb (by omega) (by omega)
      clear hz1 hz2 hz hle gav gbv hst hq
      go_enter Try.func70, Try.ntmps70
      have tk0 : True := trivial
      have tk1 : True := trivial
      have tk2 : True := trivial
      go_wp2_with (first
        | (guard_target =~ Code.wp _ (Code.region 4 _ true) _ _ _; refine region_tree 4 1 (G := True) (.q 0 (.q 1 (.q 2 (.q 3 (.q 4 (.q 5 (.e 6 (.q 7 (.e 8 (.e 9 .nil)))))))))) (by kernel_rfl) (by intro c a d v w h; cases d <;> exact h) (by kernel_rfl) H ⟨trivial⟩ (fun _ w3 H2 => ?_); (clear H; (try clear w2); revert w3; intro w2 H); simp only [List.drop_succ_cons, List.drop_zero])
        | (go_at_call 98; (with_reducible refine (HS (FW F _) _ (H.fw_lt rfl hF) _ _ _ _ (H.giveRd m3 f1) (H.giveRd m4 f2)).mono ?_); rintro e w3 ⟨rfl, hb⟩; replace H := H.ext hb; clear hb; dsimp only; (skip))
        | (go_at_call 100; (with_reducible refine (minus_any (FW F _) _ (H.fw_lt rfl hF) _ _ _ _ a b (H.giveRd m3 f1) (H.giveRd m4 f2) ga1 gb1 (by omega) HLEN.out HLE.out).mono ?_); rintro e w3 ⟨A3, c5, l3, rfl, hb, s3, g3, k3, k4, k5, k8⟩; replace H := H.ext hb; clear hb; obtain ⟨b5, o5, H4, f5⟩ := H.addSl s3; clear H s3; have H := H4; clear H4; dsimp only; (refine hK _ _ ⟨_, H, by repeat first | exact .here | apply Suf.there⟩ ?_; clear hK K; (try simp only [Act.put, List.setIfInBounds_toArray, List.set_cons_succ, List.set_cons_zero])))
        | (go_at_call 97; (with_reducible refine (trim_any (FW F _) _ (H.fw_lt rfl hF) _ _ _ l3 (H.giveRd m0 f5) g3 (by omega) k5 k8).mono ?_); rintro e w3 ⟨A4, c6, l4, rfl, hb, s4, g4, k6, k7⟩; replace H := H.ext hb; clear hb; obtain ⟨b6, o6, H4, f6⟩ := H.addSl s4; clear H s4; have H := H4; clear H4; dsimp only; (refine hK _ _ ⟨_, H, by repeat first | exact .here | apply Suf.there⟩ ?_; clear hK K; (try simp only [Act.put, List.setIfInBounds_toArray, List.set_cons_succ, List.set_cons_zero])))
        | (guard_target =~ wpList _ _ _ (_ :: _) _ _; (first | (guard_target =~ wpList _ _ _ (Oper.mk _ (.load _ _) _ _ _ _ :: _) _ _; refine BigFrame.wpList_want rfl (fun K hK => ?_); (refine o_loadC (v := ?_) (row := ?_) rfl rfl H ?_ ?_ ?_ (hK _ _ ?_); rotate_left 2; (repeat first | exact .head _ | apply List.Mem.tail); (exact rfl); (focus (intro _; simp; done))); clear hK K) | ((first | (guard_target =~ wpList _ _ _ (Oper.mk _ (.alloc _) _ _ _ _ :: _) _ _; refine BigFrame.wpList_want rfl (fun K hK => ?_); refine o_alloc (z := ?_) rfl ?_ H rfl (fun w3 b2 he H2 => hK _ _ ?_); rotate_left 1; (focus (intro _; simp; with_reducible exact rfl))) | (guard_target =~ wpList _ _ _ (Oper.mk _ (.box _ _) _ _ _ _ :: _) _ _; refine BigFrame.wpList_want rfl (fun K hK => ?_); refine o_box rfl H rfl (fun w3 b2 he H2 => hK _ _ ?_))); clear hK K he; clear H; (try clear w2); revert w3; intro w2 H; simp [Act.eval, Value.cells, setL, List.getD] at H; (first | (clear tk0; rename Nat => d2) | (clear tk1; rename Nat => d3) | (clear tk2; rename Nat => d4)))); simp only [Act.put, List.setIfInBounds_toArray, List.set_cons_succ, List.set_cons_zero])
        | (guard_target =~ wpTree _ _ _ _ _ _ _; first | (guard_target =~ wpTree _ _ _ (Tr.q _ _) _ _ _; first | (refine tree_quiet ⟨_, H, by repeat first | exact .here | apply Suf.there⟩ rfl rfl rfl (fun K hK => ?_); simp only [List.getElem_toArray, List.getElem_cons_succ, List.getElem_cons_zero]; first | (guard_target =~ Oper.quiet _ (Oper.mk _ (.load _ _) _ _ _ _) _ _ _; (refine q_loadC (v := ?_) (row := ?_) rfl rfl ?_ ?_ ?_ (hK _ ?_); rotate_left 2; (repeat first | exact .head _ | apply List.Mem.tail); (exact rfl); (focus (intro _; simp; done))); clear hK K; simp only [Act.put, List.setIfInBounds_toArray, List.set_cons_succ, List.set_cons_zero]) | (go_big_quiet_op; (try refine ⟨_, fun _ _ => rfl, ?_⟩); refine hK _ ?_; clear hK K)) | (refine tree_skip ⟨_, H, by repeat first | exact .here | apply Suf.there⟩ rfl rfl ?_; simp only [List.getElem_toArray, List.getElem_cons_succ, List.getElem_cons_zero, Act.put, List.setIfInBounds_toArray, List.set_cons_succ, List.set_cons_zero])) | (guard_target =~ wpTree _ _ _ (Tr.both _ _) _ _ _; refine tree_both ?_ ?_) | (guard_target =~ wpTree _ _ _ (Tr.e _ _) _ _ _; first | (refine tree_one rfl rfl (fun K hK => ?_); simp only [List.getElem_toArray, List.getElem_cons_succ, List.getElem_cons_zero]; first | ((guard_target =~ Oper.wp _ (Oper.mk _ (.store _ _ _) _ _ _ _) _ _ _ _; refine o_store (l' := ?_) (row := ?_) rfl rfl H rfl ?_ ?_ ?_ ?_ (fun w3 H2 => hK _ _ ⟨_, H2, ?_⟩ ?_); rotate_left 2; (exact r2); (focus (intro _; simp [Act.eval, Value.cells]; done)); (focus (simp [Act.eval, Value.cells]; done)); (exact rfl); (guard_target =~ Suf _ _; repeat first | exact .here | apply Suf.there); clear hK K; clear H; (try clear w2); revert w3; intro w2 H; simp [Act.eval, Value.cells, setL, List.getD] at H); simp only [Act.put, List.setIfInBounds_toArray, List.set_cons_succ, List.set_cons_zero]) | go_big_op) | (refine tree_one_skip ⟨_, H, by repeat first | exact .here | apply Suf.there⟩ rfl rfl ?_; simp only [List.getElem_toArray, List.getElem_cons_succ, List.getElem_cons_zero, Act.put, List.setIfInBounds_toArray, List.set_cons_succ, List.set_cons_zero])) | (guard_target =~ wpTree _ _ _ Tr.nil _ _ _; refine tree_nil ?_)))
      have hr := H.loadVarN (P := Try.prog) (ty := 71) m2 (by simp) (by simp)
      exact bodyPost_ret (v := .agg #[.bool (decide (sgn s (val l3) < 0)), .slice A4 l4.length c6]) (by simp [results, Try.results70, asAddr, hr]) rfl ⟨A4, c6, l4, by rw [← k3], H.below, (H.giveRd m0 f6).fw, by rw [← k3]; exact g4, k6, k7⟩
    · have hle' : val a ≤ val b := by omega
      have hz := hz2 hle'
      rw [← hz]
      have HLE := Lib.hid hle'
      have HLEN := Lib.hid (len_le_of_val ga gb hle')
      obtain ⟨q, hq⟩ : ∃ q, cmpN x.natAbs y.natAbs = q := ⟨_, rfl⟩
      have hq0 : decide ((0 : Int) ≤ q) = false := by
        rw [← hq, ← gav, ← gbv]; unfold cmpN; rw [if_pos (by omega)]; simp
      have HS : ∀ (F : Nat → Prop) (w : World) (hF : ∀ k, F k → k < w.heap.size) (A1 A2 : Option Addr) (c1 c2 : Nat) (ha : Sl F w A1 (dl a)) (hb : Sl F w A2 (dl b)), Calls Try.prog 98 #[.slice A1 a.length c1, .slice A2 b.length c2] w fun e w' => e = .returned (.int .i64 q) ∧ Below w.heap.size w w' := by
        intro F w hF A1 A2 c1 c2 ha hb
        rw [← hq]
        exact size_any F w hF A1 A2 c1 c2 a b x y ha hb ga gb (by omega) (by omega)
      clear hz1 hz2 hz hle hle' gav gbv hst hq
      go_enter Try.func70, Try.ntmps70
      have tk0 : True := trivial
      have tk1 : True := trivial
      have tk2 : True := trivial
      go_wp2_with (first
        | (guard_target =~ Code.wp _ (Code.region 5 _ true) _ _ _; refine region_tree 5 1 (G := True) (.q 0 (.q 1 (.q 2 (.q 3 (.q 4 (.q 5 (.e 6 (.q 7 (.e 8 (.e 9 .nil)))))))))) (by kernel_rfl) (by intro c a d v w h; cases d <;> exact h) (by kernel_rfl) H ⟨trivial⟩ (fun _ w3 H2 => ?_); (clear H; (try clear w2); revert w3; intro w2 H); simp only [List.drop_succ_cons, List.drop_zero])
        | (go_at_call 98; (with_reducible refine (HS (FW F _) _ (H.fw_lt rfl hF) _ _ _ _ (H.giveRd m3 f1) (H.giveRd m4 f2)).mono ?_); rintro e w3 ⟨rfl, hb⟩; replace H := H.ext hb; clear hb; dsimp only; (skip))
        | (go_at_call 100; (with_reducible refine (minus_any (FW F _) _ (H.fw_lt rfl hF) _ _ _ _ b a (H.giveRd m4 f2) (H.giveRd m3 f1) gb1 ga1 (by omega) HLEN.out HLE.out).mono ?_); rintro e w3 ⟨A3, c5, l3, rfl, hb, s3, g3, k3, k4, k5, k8⟩; replace H := H.ext hb; clear hb; obtain ⟨b5, o5, H4, f5⟩ := H.addSl s3; clear H s3; have H := H4; clear H4; dsimp only; (refine hK _ _ ⟨_, H, by repeat first | exact .here | apply Suf.there⟩ ?_; clear hK K; (try simp only [Act.put, List.setIfInBounds_toArray, List.set_cons_succ, List.set_cons_zero])))
        | (go_at_call 97; (with_reducible refine (trim_any (FW F _) _ (H.fw_lt rfl hF) _ _ _ l3 (H.giveRd m0 f5) g3 (by omega) k5 k8).mono ?_); rintro e w3 ⟨A4, c6, l4, rfl, hb, s4, g4, k6, k7⟩; replace H := H.ext hb; clear hb; obtain ⟨b6, o6, H4, f6⟩ := H.addSl s4; clear H s4; have H := H4; clear H4; dsimp only; (refine hK _ _ ⟨_, H, by repeat first | exact .here | apply Suf.there⟩ ?_; clear hK K; (try simp only [Act.put, List.setIfInBounds_toArray, List.set_cons_succ, List.set_cons_zero])))
        | (guard_target =~ wpList _ _ _ (_ :: _) _ _; (first | (guard_target =~ wpList _ _ _ (Oper.mk _ (.load _ _) _ _ _ _ :: _) _ _; refine BigFrame.wpList_want rfl (fun K hK => ?_); (refine o_loadC (v := ?_) (row := ?_) rfl rfl H ?_ ?_ ?_ (hK _ _ ?_); rotate_left 2; (repeat first | exact .head _ | apply List.Mem.tail); (exact rfl); (focus (intro _; simp; done))); clear hK K) | ((first | (guard_target =~ wpList _ _ _ (Oper.mk _ (.alloc _) _ _ _ _ :: _) _ _; refine BigFrame.wpList_want rfl (fun K hK => ?_); refine o_alloc (z := ?_) rfl ?_ H rfl (fun w3 b2 he H2 => hK _ _ ?_); rotate_left 1; (focus (intro _; simp; with_reducible exact rfl))) | (guard_target =~ wpList _ _ _ (Oper.mk _ (.box _ _) _ _ _ _ :: _) _ _; refine BigFrame.wpList_want rfl (fun K hK => ?_); refine o_box rfl H rfl (fun w3 b2 he H2 => hK _ _ ?_))); clear hK K he; clear H; (try clear w2); revert w3; intro w2 H; simp [Act.eval, Value.cells, setL, List.getD] at H; (first | (clear tk0; rename Nat => d2) | (clear tk1; rename Nat => d3) | (clear tk2; rename Nat => d4)))); simp only [Act.put, List.setIfInBounds_toArray, List.set_cons_succ, List.set_cons_zero])
        | (guard_target =~ wpTree _ _ _ _ _ _ _; first | (guard_target =~ wpTree _ _ _ (Tr.q _ _) _ _ _; first | (refine tree_quiet ⟨_, H, by repeat first | exact .here | apply Suf.there⟩ rfl rfl rfl (fun K hK => ?_); simp only [List.getElem_toArray, List.getElem_cons_succ, List.getElem_cons_zero]; first | (guard_target =~ Oper.quiet _ (Oper.mk _ (.load _ _) _ _ _ _) _ _ _; (refine q_loadC (v := ?_) (row := ?_) rfl rfl ?_ ?_ ?_ (hK _ ?_); rotate_left 2; (repeat first | exact .head _ | apply List.Mem.tail); (exact rfl); (focus (intro _; simp; done))); clear hK K; simp only [Act.put, List.setIfInBounds_toArray, List.set_cons_succ, List.set_cons_zero]) | (go_big_quiet_op; (try refine ⟨_, fun _ _ => rfl, ?_⟩); refine hK _ ?_; clear hK K)) | (refine tree_skip ⟨_, H, by repeat first | exact .here | apply Suf.there⟩ rfl rfl ?_; simp only [List.getElem_toArray, List.getElem_cons_succ, List.getElem_cons_zero, Act.put, List.setIfInBounds_toArray, List.set_cons_succ, List.set_cons_zero])) | (guard_target =~ wpTree _ _ _ (Tr.both _ _) _ _ _; refine tree_both ?_ ?_) | (guard_target =~ wpTree _ _ _ (Tr.e _ _) _ _ _; first | (refine tree_one rfl rfl (fun K hK => ?_); simp only [List.getElem_toArray, List.getElem_cons_succ, List.getElem_cons_zero]; first | ((guard_target =~ Oper.wp _ (Oper.mk _ (.store _ _ _) _ _ _ _) _ _ _ _; refine o_store (l' := ?_) (row := ?_) rfl rfl H rfl ?_ ?_ ?_ ?_ (fun w3 H2 => hK _ _ ⟨_, H2, ?_⟩ ?_); rotate_left 2; (exact r2); (focus (intro _; simp [Act.eval, Value.cells]; done)); (focus (simp [Act.eval, Value.cells]; done)); (exact rfl); (guard_target =~ Suf _ _; repeat first | exact .here | apply Suf.there); clear hK K; clear H; (try clear w2); revert w3; intro w2 H; simp [Act.eval, Value.cells, setL, List.getD] at H); simp only [Act.put, List.setIfInBounds_toArray, List.set_cons_succ, List.set_cons_zero]) | go_big_op) | (refine tree_one_skip ⟨_, H, by repeat first | exact .here | apply Suf.there⟩ rfl rfl ?_; simp only [List.getElem_toArray, List.getElem_cons_succ, List.getElem_cons_zero, Act.put, List.setIfInBounds_toArray, List.set_cons_succ, List.set_cons_zero])) | (guard_target =~ wpTree _ _ _ Tr.nil _ _ _; refine tree_nil ?_)))
      have hr := H.loadVarN (P := Try.prog) (ty := 71) m2 (by simp) (by simp)
      exact bodyPost_ret (v := .agg #[.bool (decide (sgn t (val l3) < 0)), .slice A4 l4.length c6]) (by simp [results, Try.results70, asAddr, hr]) rfl ⟨A4, c6, l4, by rw [← k3], H.below, (H.giveRd m0 f6).fw, by rw [← k3]; exact g4, k6, k7⟩
end Go.Proofs.Ytmmieilogpmocaa
