/-
  The walks of the document's layer 4: the greatest whole number not above a fraction, a fraction's text.
-/
import Derived.Test.YtmmieilogpmocaaM882799d0
import Derived.Test.YtmmieilogpmocaaRef03d
import Derived.Test.YtmmieilogpmocaaRat6
import Derived.Test.YtmmieilogpmocaaBase
import Derived.ChangeArms
import Derived.Test.YtmmieilogpmocaaRat1
import Derived.Test.YtmmieilogpmocaaSigns
namespace Go.Proofs.Ytmmieilogpmocaa
set_option linter.unusedVariables false
set_option linter.unusedSimpArgs false
open Go.RowKit

theorem one_cn : CnI [1] (-1) := ⟨fun d hd => by simp at hd; omega, by simp, by simp [val]⟩
theorem less_one (F : Nat → Prop) (w : World) (hF : ∀ k, F k → k < w.heap.size) (A1 A2 : Option Addr) (k1 : Nat) (a : List Nat) (q : Int) (ha : Sl F w A1 (dl a)) (hb : Sl F w A2 [.int .i64 1]) (ga : CnI a q) (la : a.length ≤ 900) (ma : a.length ≤ k1) :
    Calls Try.prog 70 #[.agg #[.bool (decide (q < 0)), .slice A1 a.length k1], .agg #[.bool true, .slice A2 1 1]] w (RetN F w (q - 1)) :=
  refAdd_any F w hF A1 A2 k1 1 a [1] q (-1) ha (by simpa [dl] using hb) ga one_cn la (by decide) ma (by decide)
set_option maxRecDepth 200000 in
set_option maxHeartbeats 16000000 in
theorem ref4Floor_any (n d : Int) (hn : R256 n) (hd : R256 d) (hp : 0 < d) (w : World) :
    Calls Try.prog 38 #[rV n d] w fun e' w' => e' = .returned (iV (n / d)) ∧ Below w.heap.size w w' := by
  have H := Own.start w
  have hF : ∀ k : Nat, (fun _ : Nat => False) k → k < w.heap.size := fun k h => h.elim
  have on := fun F w hF => refOf_any F w hF n hn
  have od := fun F w hF => refOf_any F w hF d hd
  have hD := fun F w hF A1 A2 k1 k2 a b ha hb ga gb ma mb ma2 mb2 => refDiv_any F w hF A1 A2 k1 k2 a b n d ha hb ga gb (fit450 hn ga) (fit450 hd gb) ma mb ma2 mb2 (by omega)
  have fq := floor_tdiv (n := n) hp
  have ff := floor_fits hn hp
  have ff1 : fitZ (n / d) = n / d := by unfold fitZ; rw [if_pos ff]
  have hq5 : R512 (n.tdiv d) := tdiv_512 hn
  have hW := fun F w hF A c l ha g => refWords_any F w hF A c l (n / d) ha g (fit1000 (wide_self ff) g)
  rw [ff1, show decide (R256 (n / d)) = true by simpa using ff] at hW
  have hA := fun F w hF A1 A2 k1 a ha hb ga => less_one F w hF A1 A2 k1 a (n.tdiv d) ha hb ga (Nat.le_trans (fit32 hq5 ga) (by decide))
  unfold RetN2 at hD
  unfold RetN at on od
  by_cases hr : n.tmod d < 0
  · rw [if_pos hr] at fq
    rw [fq] at hW ⊢
    rw [show decide (n.tmod d < 0) = true by simpa using hr] at hD
    clear fq ff ff1 hq5 hp hr
    generalize n.tdiv d = q at *
    obtain ⟨v, e1⟩ : ∃ v, q - 1 = v := ⟨_, rfl⟩
    rw [e1] at hW hA ⊢
    generalize n.tmod d = r at *
    clear e1
    go_enter Try.func38, Try.ntmps38
    have tk0 : True := trivial
    have tk1 : True := trivial
    have tk2 : True := trivial
    have tk3 : True := trivial
    go_wp2_with (first
      | (guard_target =~ bodyPost _ _ _ _ _ _; refine Stopped.out ?_)
      | (guard_target =~ Code.wp _ (Code.region 1 _ true) _ _ _; refine region_tree0 1 (G := ?_) (.q 0 (.q 1 (.q 3 (.q 4 (.both (.e 2 (.both (.e 5 (.both (.e 6 (.q 7 (.q 8 (.q 9 (.both (.e 10 (.e 11 (.e 12 (.e 13 .nil)))) (.e 11 (.e 10 (.e 12 (.e 13 .nil))))))))) (.both (.e 10 (.both (.e 6 (.q 7 (.q 8 (.q 9 (.e 11 (.e 12 (.e 13 .nil))))))) (.e 11 (.e 6 (.q 7 (.q 8 (.q 9 (.e 12 (.e 13 .nil))))))))) (.e 11 (.both (.e 6 (.q 7 (.q 8 (.q 9 (.e 10 (.e 12 (.e 13 .nil))))))) (.e 10 (.e 6 (.q 7 (.q 8 (.q 9 (.e 12 (.e 13 .nil)))))))))))) (.both (.e 10 (.both (.e 5 (.both (.e 6 (.q 7 (.q 8 (.q 9 (.e 11 (.e 12 (.e 13 .nil))))))) (.e 11 (.e 6 (.q 7 (.q 8 (.q 9 (.e 12 (.e 13 .nil))))))))) (.e 11 (.e 5 (.e 6 (.q 7 (.q 8 (.q 9 (.e 12 (.e 13 .nil)))))))))) (.e 11 (.both (.e 5 (.both (.e 6 (.q 7 (.q 8 (.q 9 (.e 10 (.e 12 (.e 13 .nil))))))) (.e 10 (.e 6 (.q 7 (.q 8 (.q 9 (.e 12 (.e 13 .nil))))))))) (.e 10 (.e 5 (.e 6 (.q 7 (.q 8 (.q 9 (.e 12 (.e 13 .nil))))))))))))) (.both (.e 10 (.both (.e 2 (.both (.e 5 (.both (.e 6 (.q 7 (.q 8 (.q 9 (.e 11 (.e 12 (.e 13 .nil))))))) (.e 11 (.e 6 (.q 7 (.q 8 (.q 9 (.e 12 (.e 13 .nil))))))))) (.e 11 (.e 5 (.e 6 (.q 7 (.q 8 (.q 9 (.e 12 (.e 13 .nil)))))))))) (.e 11 (.e 2 (.e 5 (.e 6 (.q 7 (.q 8 (.q 9 (.e 12 (.e 13 .nil))))))))))) (.e 11 (.both (.e 2 (.both (.e 5 (.both (.e 6 (.q 7 (.q 8 (.q 9 (.e 10 (.e 12 (.e 13 .nil))))))) (.e 10 (.e 6 (.q 7 (.q 8 (.q 9 (.e 12 (.e 13 .nil))))))))) (.e 10 (.e 5 (.e 6 (.q 7 (.q 8 (.q 9 (.e 12 (.e 13 .nil)))))))))) (.e 10 (.e 2 (.e 5 (.e 6 (.q 7 (.q 8 (.q 9 (.e 12 (.e 13 .nil))))))))))))))))) (by kernel_rfl) (by intro c a d v w h; cases d <;> exact h) (by kernel_rfl) H ?_ (fun key1 w3 H2 => ?_); rotate_left 2; (revert w3; intro w2 H))
      | (guard_target =~ Key 1 _; refine ⟨?_⟩; intro A5 k5 l5 g5 q5 p5 b5 o5 f5 A6 k6 l6 g6 q6 p6 b6 o6 f6 A7 k7 l7 A8 k8 l8 g7 q7 p7 g8 q8 p8 b7 o7 f7 b8 o8 f8 nb10 nb11 w2 H)
      | (go_at_call 56; (with_reducible refine (on (FW (fun _ => False) _) _ (H.fw_lt rfl hF)).mono ?_); rintro e w3 ⟨A5, k5, l5, rfl, hb, s5, g5, q5, p5⟩; replace H := H.ext hb; clear hb; obtain ⟨b5, o5, H4, f5⟩ := H.addSl s5; clear H s5; have H := H4; clear H4; dsimp only; (refine hK _ _ ⟨_, H, by repeat first | exact .here | apply Suf.there⟩ ?_; clear hK K; (try simp only [Act.put, List.setIfInBounds_toArray, List.set_cons_succ, List.set_cons_zero, cells_iV, iL_length, setL_i, setL_ii, agg_iL, cells_rV, rL_length, setL_r, setL_rr, agg_rL])))
      | (go_at_call 56; (with_reducible refine (od (FW (fun _ => False) _) _ (H.fw_lt rfl hF)).mono ?_); rintro e w3 ⟨A6, k6, l6, rfl, hb, s6, g6, q6, p6⟩; replace H := H.ext hb; clear hb; obtain ⟨b6, o6, H4, f6⟩ := H.addSl s6; clear H s6; have H := H4; clear H4; dsimp only; (refine hK _ _ ⟨_, H, by repeat first | exact .here | apply Suf.there⟩ ?_; clear hK K; (try simp only [Act.put, List.setIfInBounds_toArray, List.set_cons_succ, List.set_cons_zero, cells_iV, iL_length, setL_i, setL_ii, agg_iL, cells_rV, rL_length, setL_r, setL_rr, agg_rL])))
      | (go_at_call 69; (with_reducible refine (hD (FW (fun _ => False) _) _ (H.fw_lt rfl hF) _ _ _ _ l5 l6 (by first | exact H.giveRd m1 f5 | exact H.giveRd m2 f5 | exact H.giveRd m3 f5) (by first | exact H.giveRd m0 f6 | exact H.giveRd m1 f6 | exact H.giveRd m2 f6) g5 g6 q5 q6 p5 p6).mono ?_); rintro e w3 ⟨A7, k7, l7, A8, k8, l8, rfl, hb, s7, g7, q7, p7, s8, g8, q8, p8⟩; replace H := H.ext hb; clear hb; obtain ⟨b7, o7, H4, f7⟩ := H.addSl s7; clear H s7; have H := H4; clear H4; replace s8 := Sl.more (r := .rd A7 b7 o7 (dl l7)) s8 rfl; obtain ⟨b8, o8, H4, f8⟩ := H.addSl s8; clear H s8; have H := H4; clear H4; dsimp only; (refine hK _ _ ⟨_, H, by repeat first | exact .here | apply Suf.there⟩ ?_; clear hK K; (try simp only [Act.put, List.setIfInBounds_toArray, List.set_cons_succ, List.set_cons_zero, cells_iV, iL_length, setL_i, setL_ii, agg_iL, cells_rV, rL_length, setL_r, setL_rr, agg_rL])))
      | (go_at_call 70; replace H := H.toRd; (with_reducible refine (hA (FW (fun _ => False) _) _ (H.fw_lt rfl hF) _ _ _ l7 (by exact H.giveRd m5 f7) (H.giveRd m0 (fun _ h => h.elim)) g7 q7).mono ?_); rintro e w3 ⟨A9, k9, l9, rfl, hb, s9, g9, q9, p9⟩; replace H := H.ext hb; clear hb; obtain ⟨b9, o9, H4, f9⟩ := H.addSl s9; clear H s9; have H := H4; clear H4; dsimp only; (skip))
      | (go_at_call 71; (with_reducible refine (hW (FW (fun _ => False) _) _ (H.fw_lt rfl hF) _ _ l9 (by exact H.giveRd m0 f9) g9 q9 p9).mono ?_); rintro e w3 ⟨rfl, hb⟩; replace H := H.ext hb; clear hb; dsimp only; (skip))
      | (guard_target =~ wpList _ _ _ (_ :: _) _ _; (first | (guard_target =~ wpList _ _ _ (Oper.mk _ (.load _ _) _ _ _ _ :: _) _ _; refine BigFrame.wpList_want rfl (fun K hK => ?_); (first | (refine o_loadC (v := ?_) (row := ?_) rfl rfl H ?_ ?_ ?_ (hK _ _ ?_); rotate_left 2; (repeat first | exact .head _ | apply List.Mem.tail); (exact rfl); (focus (intro _; simp [cells_iV, iL_length, setL_i, setL_ii, agg_iL, cells_rV, rL_length, setL_r, setL_rr, agg_rL]; done))) | (refine o_loadNC (row := ?_) rfl rfl H ?_ ?_ ?_ (hK _ _ ?_); rotate_left 1; (repeat first | exact .head _ | apply List.Mem.tail); (focus (intro _; simp [cells_iV, iL_length, setL_i, setL_ii, agg_iL, cells_rV, rL_length, setL_r, setL_rr, agg_rL]; done)); (focus (intro _; simp [cells_iV, iL_length, setL_i, setL_ii, agg_iL, cells_rV, rL_length, setL_r, setL_rr, agg_rL]; done)))); clear hK K) | (guard_target =~ wpList _ _ _ (Oper.mk _ (.store _ _ _) _ _ _ _ :: _) _ _; refine BigFrame.wpList_want rfl (fun K hK => ?_); refine o_store (l' := ?_) (row := ?_) rfl rfl H rfl ?_ ?_ ?_ ?_ (fun w3 H2 => hK _ _ ?_); rotate_left 2; (first | exact r0 | exact r2 | exact r9); (focus (intro _; (first | (simp [Act.eval, List.getD, cells_iV, iL_length, setL_i, setL_ii, agg_iL, cells_rV, rL_length, setL_r, setL_rr, agg_rL]; done) | (simp [Act.eval, Value.cells, List.getD, cells_iV, iL_length, setL_i, setL_ii, agg_iL, cells_rV, rL_length, setL_r, setL_rr, agg_rL]; done)))); (focus (first | (simp [Act.eval, List.getD, cells_iV, iL_length, setL_i, setL_ii, agg_iL, cells_rV, rL_length, setL_r, setL_rr, agg_rL]; done) | (simp [Act.eval, Value.cells, List.getD, cells_iV, iL_length, setL_i, setL_ii, agg_iL, cells_rV, rL_length, setL_r, setL_rr, agg_rL]; done))); (exact rfl); clear hK K; clear H; (try clear w2); revert w3; intro w2 H; (try simp [Act.eval, List.getD, cells_iV, iL_length, setL_i, setL_ii, agg_iL, cells_rV, rL_length, setL_r, setL_rr, agg_rL] at H); (try simp [Value.cells, setL, cells_iV, iL_length, setL_i, setL_ii, agg_iL, cells_rV, rL_length, setL_r, setL_rr, agg_rL] at H)) | ((first | (guard_target =~ wpList _ _ _ (Oper.mk _ (.alloc _) _ _ _ _ :: _) _ _; refine BigFrame.wpList_want rfl (fun K hK => ?_); refine o_alloc (z := ?_) rfl ?_ H rfl (fun w3 b2 he H2 => hK _ _ ?_); rotate_left 1; (focus (intro _; simp; with_reducible exact rfl))) | (guard_target =~ wpList _ _ _ (Oper.mk _ (.box _ _) _ _ _ _ :: _) _ _; refine BigFrame.wpList_want rfl (fun K hK => ?_); refine o_box rfl H rfl (fun w3 b2 he H2 => hK _ _ ?_)) | (guard_target =~ wpList _ _ _ (Oper.mk _ (.buildSlice _ _ _) _ _ _ _ :: _) _ _; refine BigFrame.wpList_want rfl (fun K hK => ?_); refine o_buildSlice (C := ?_) (E := ?_) rfl rfl H ?_ rfl (fun w3 b2 he H2 => hK _ _ ?_); rotate_left 2; (focus (intro _; simp [go_sem, Instr.buildSlice]; with_reducible exact rfl)))); clear hK K he; clear H; (try clear w2); revert w3; intro w2 H; (try simp [Act.eval, List.getD, cells_iV, iL_length, setL_i, setL_ii, agg_iL, cells_rV, rL_length, setL_r, setL_rr, agg_rL] at H); (try simp [Value.cells, setL, cells_iV, iL_length, setL_i, setL_ii, agg_iL, cells_rV, rL_length, setL_r, setL_rr, agg_rL] at H); (first | (clear tk0; rename Nat => c1) | (clear tk1; rename Nat => c2) | (clear tk2; rename Nat => c3) | (clear tk3; rename Nat => c4)))); simp only [Act.put, List.setIfInBounds_toArray, List.set_cons_succ, List.set_cons_zero, cells_iV, iL_length, setL_i, setL_ii, agg_iL, cells_rV, rL_length, setL_r, setL_rr, agg_rL])
      | (guard_target =~ wpTree _ _ _ _ _ _ _; first | (guard_target =~ wpTree _ _ _ (Tr.q _ _) _ _ _; first | (refine tree_quiet ⟨_, H, by repeat first | exact .here | apply Suf.there⟩ rfl rfl rfl (fun K hK => ?_); simp only [List.getElem_toArray, List.getElem_cons_succ, List.getElem_cons_zero]; first | (guard_target =~ Oper.quiet _ (Oper.mk _ (.load _ _) _ _ _ _) _ _ _; (first | (refine q_loadNum (n := ?_) (d := ?_) rfl rfl ?_ ?_ ?_ (hK _ ?_); rotate_left 2; (repeat first | exact .head _ | apply List.Mem.tail); (focus (intro _; simp [cells_iV, iL_length, setL_i, setL_ii, agg_iL, cells_rV, rL_length, setL_r, setL_rr, agg_rL]; done)); (focus (intro _; simp [cells_iV, iL_length, setL_i, setL_ii, agg_iL, cells_rV, rL_length, setL_r, setL_rr, agg_rL]; done))) | (refine q_loadDen (n := ?_) (d := ?_) rfl rfl ?_ ?_ ?_ (hK _ ?_); rotate_left 2; (repeat first | exact .head _ | apply List.Mem.tail); (focus (intro _; simp [cells_iV, iL_length, setL_i, setL_ii, agg_iL, cells_rV, rL_length, setL_r, setL_rr, agg_rL]; done)); (focus (intro _; simp [cells_iV, iL_length, setL_i, setL_ii, agg_iL, cells_rV, rL_length, setL_r, setL_rr, agg_rL]; done)))); clear hK K; simp only [Act.put, List.setIfInBounds_toArray, List.set_cons_succ, List.set_cons_zero, cells_iV, iL_length, setL_i, setL_ii, agg_iL, cells_rV, rL_length, setL_r, setL_rr, agg_rL]) | (go_big_quiet_op; (try refine ⟨_, fun _ _ => rfl, ?_⟩); refine hK _ ?_; clear hK K)) | (refine tree_skip ⟨_, H, by repeat first | exact .here | apply Suf.there⟩ rfl rfl ?_; simp only [List.getElem_toArray, List.getElem_cons_succ, List.getElem_cons_zero, Act.put, List.setIfInBounds_toArray, List.set_cons_succ, List.set_cons_zero])) | (guard_target =~ wpTree _ _ _ (Tr.e _ _) _ _ _; (first | (guard_target =~ wpTree _ _ _ (Tr.e 10 _) _ _ _; refine tree_one rfl rfl (fun K hK => ?_); simp only [List.getElem_toArray, List.getElem_cons_succ, List.getElem_cons_zero]; ((guard_target =~ Oper.wp _ (Oper.mk _ (.alloc _) _ _ _ _) _ _ _ _; refine o_alloc (z := ?_) rfl ?_ H rfl (fun w3 b2 he H2 => hK _ _ ⟨_, H2, ?_⟩ ?_); rotate_left 1; (focus (intro _; simp; with_reducible exact rfl))); (guard_target =~ Suf _ _; repeat first | exact .here | apply Suf.there); clear hK K he; clear H; (try clear w2); revert w3; intro w2 H; (try simp [Act.eval, List.getD, cells_iV, iL_length, setL_i, setL_ii, agg_iL, cells_rV, rL_length, setL_r, setL_rr, agg_rL] at H); (try simp [Value.cells, setL, cells_iV, iL_length, setL_i, setL_ii, agg_iL, cells_rV, rL_length, setL_r, setL_rr, agg_rL] at H)); simp only [Act.put, List.setIfInBounds_toArray, List.set_cons_succ, List.set_cons_zero, cells_iV, iL_length, setL_i, setL_ii, agg_iL, cells_rV, rL_length, setL_r, setL_rr, agg_rL]; rename Nat => nb10) | (guard_target =~ wpTree _ _ _ (Tr.e 11 _) _ _ _; refine tree_one rfl rfl (fun K hK => ?_); simp only [List.getElem_toArray, List.getElem_cons_succ, List.getElem_cons_zero]; ((guard_target =~ Oper.wp _ (Oper.mk _ (.alloc _) _ _ _ _) _ _ _ _; refine o_alloc (z := ?_) rfl ?_ H rfl (fun w3 b2 he H2 => hK _ _ ⟨_, H2, ?_⟩ ?_); rotate_left 1; (focus (intro _; simp; with_reducible exact rfl))); (guard_target =~ Suf _ _; repeat first | exact .here | apply Suf.there); clear hK K he; clear H; (try clear w2); revert w3; intro w2 H; (try simp [Act.eval, List.getD, cells_iV, iL_length, setL_i, setL_ii, agg_iL, cells_rV, rL_length, setL_r, setL_rr, agg_rL] at H); (try simp [Value.cells, setL, cells_iV, iL_length, setL_i, setL_ii, agg_iL, cells_rV, rL_length, setL_r, setL_rr, agg_rL] at H)); simp only [Act.put, List.setIfInBounds_toArray, List.set_cons_succ, List.set_cons_zero, cells_iV, iL_length, setL_i, setL_ii, agg_iL, cells_rV, rL_length, setL_r, setL_rr, agg_rL]; rename Nat => nb11))) | (guard_target =~ wpTree _ _ _ (Tr.both _ _) _ _ _; refine tree_both ?_ ?_) | (guard_target =~ wpTree _ _ _ (Tr.e _ _) _ _ _; first | (refine tree_one rfl rfl (fun K hK => ?_); simp only [List.getElem_toArray, List.getElem_cons_succ, List.getElem_cons_zero]; first | ((guard_target =~ Oper.wp _ (Oper.mk _ (.store _ _ _) _ _ _ _) _ _ _ _; refine o_store (l' := ?_) (row := ?_) rfl rfl H rfl ?_ ?_ ?_ ?_ (fun w3 H2 => hK _ _ ⟨_, H2, ?_⟩ ?_); rotate_left 2; (first | exact r0 | exact r1 | exact r2 | exact r3 | exact r4 | exact r5); (focus (intro _; (simp [Act.eval, Value.cells, List.getD, cells_iV, iL_length, setL_i, setL_ii, agg_iL, cells_rV, rL_length, setL_r, setL_rr, agg_rL]; done))); (focus (simp [Act.eval, Value.cells, List.getD, cells_iV, iL_length, setL_i, setL_ii, agg_iL, cells_rV, rL_length, setL_r, setL_rr, agg_rL]; done)); (exact rfl); (guard_target =~ Suf _ _; repeat first | exact .here | apply Suf.there); clear hK K; clear H; (try clear w2); revert w3; intro w2 H; (try simp [Act.eval, List.getD, cells_iV, iL_length, setL_i, setL_ii, agg_iL, cells_rV, rL_length, setL_r, setL_rr, agg_rL] at H); (try simp [Value.cells, setL, cells_iV, iL_length, setL_i, setL_ii, agg_iL, cells_rV, rL_length, setL_r, setL_rr, agg_rL] at H)); simp only [Act.put, List.setIfInBounds_toArray, List.set_cons_succ, List.set_cons_zero, cells_iV, iL_length, setL_i, setL_ii, agg_iL, cells_rV, rL_length, setL_r, setL_rr, agg_rL]) | (go_big_op; (skip))) | (refine tree_one_skip ⟨_, H, by repeat first | exact .here | apply Suf.there⟩ rfl rfl ?_; simp only [List.getElem_toArray, List.getElem_cons_succ, List.getElem_cons_zero, Act.put, List.setIfInBounds_toArray, List.set_cons_succ, List.set_cons_zero])) | (refine tree_nil ?_; (first | replace H : Own _ _ _ (Res.rd _ b8 _ _ :: _) := H | replace H : Own _ _ _ (Res.rd _ b8 _ _ :: _) := H.front1 | replace H : Own _ _ _ (Res.rd _ b8 _ _ :: _) := H.front2); (first | replace H : Own _ _ _ (Res.rd _ b7 _ _ :: _) := H.front1 | replace H : Own _ _ _ (Res.rd _ b7 _ _ :: _) := H.front2 | replace H : Own _ _ _ (Res.rd _ b7 _ _ :: _) := H.front3); (first | replace H : Own _ _ _ (Res.rd _ b6 _ _ :: _) := H.front2 | replace H : Own _ _ _ (Res.rd _ b6 _ _ :: _) := H.front3 | replace H : Own _ _ _ (Res.rd _ b6 _ _ :: _) := H.front4); (first | replace H : Own _ _ _ (Res.rd _ b5 _ _ :: _) := H.front3 | replace H : Own _ _ _ (Res.rd _ b5 _ _ :: _) := H.front4 | replace H : Own _ _ _ (Res.rd _ b5 _ _ :: _) := H.front5); (first | replace H : Own _ _ _ (Res.cells nb11 _ :: _) := H.front4 | replace H : Own _ _ _ (Res.cells nb11 _ :: _) := H.front5); (replace H : Own _ _ _ (Res.cells nb10 _ :: _) := H.front5); revert w2; revert nb11; revert nb10; revert f8; revert o8; revert b8; revert f7; revert o7; revert b7; revert p8; revert q8; revert g8; revert p7; revert q7; revert g7; revert l8; revert k8; revert A8; revert l7; revert k7; revert A7; revert f6; revert o6; revert b6; revert p6; revert q6; revert g6; revert l6; revert k6; revert A6; revert f5; revert o5; revert b5; revert p5; revert q5; revert g5; revert l5; revert k5; revert A5; exact key1.out) | (guard_target =~ wpTree _ _ _ Tr.nil _ _ _; refine tree_nil ?_)))
    have hr := H.loadVarN (P := Try.prog) (ty := 23) (b := c2) (row := iL v) (by simp) (by simp) (by simp [iL_length])
    exact ⟨bodyPost_ret (v := iV v) (by simp [results, Try.results38, asAddr, hr, agg_iL]) rfl ⟨rfl, H.below⟩⟩
  · rw [if_neg hr] at fq
    rw [fq] at hW ⊢
    rw [show decide (n.tmod d < 0) = false by simpa using hr] at hD
    clear fq ff ff1 hq5 hp hr hA
    generalize n.tdiv d = v at *
    generalize n.tmod d = r at *
    go_enter Try.func38, Try.ntmps38
    have tk0 : True := trivial
    have tk1 : True := trivial
    have tk2 : True := trivial
    go_wp2_with (first
      | (guard_target =~ bodyPost _ _ _ _ _ _; refine Stopped.out ?_)
      | (guard_target =~ Code.wp _ (Code.region 1 _ true) _ _ _; refine region_tree0 1 (G := ?_) (.q 0 (.q 1 (.q 3 (.q 4 (.both (.e 2 (.both (.e 5 (.both (.e 6 (.q 7 (.q 8 (.q 9 (.both (.e 10 (.e 11 (.e 12 (.e 13 .nil)))) (.e 11 (.e 10 (.e 12 (.e 13 .nil))))))))) (.both (.e 10 (.both (.e 6 (.q 7 (.q 8 (.q 9 (.e 11 (.e 12 (.e 13 .nil))))))) (.e 11 (.e 6 (.q 7 (.q 8 (.q 9 (.e 12 (.e 13 .nil))))))))) (.e 11 (.both (.e 6 (.q 7 (.q 8 (.q 9 (.e 10 (.e 12 (.e 13 .nil))))))) (.e 10 (.e 6 (.q 7 (.q 8 (.q 9 (.e 12 (.e 13 .nil)))))))))))) (.both (.e 10 (.both (.e 5 (.both (.e 6 (.q 7 (.q 8 (.q 9 (.e 11 (.e 12 (.e 13 .nil))))))) (.e 11 (.e 6 (.q 7 (.q 8 (.q 9 (.e 12 (.e 13 .nil))))))))) (.e 11 (.e 5 (.e 6 (.q 7 (.q 8 (.q 9 (.e 12 (.e 13 .nil)))))))))) (.e 11 (.both (.e 5 (.both (.e 6 (.q 7 (.q 8 (.q 9 (.e 10 (.e 12 (.e 13 .nil))))))) (.e 10 (.e 6 (.q 7 (.q 8 (.q 9 (.e 12 (.e 13 .nil))))))))) (.e 10 (.e 5 (.e 6 (.q 7 (.q 8 (.q 9 (.e 12 (.e 13 .nil))))))))))))) (.both (.e 10 (.both (.e 2 (.both (.e 5 (.both (.e 6 (.q 7 (.q 8 (.q 9 (.e 11 (.e 12 (.e 13 .nil))))))) (.e 11 (.e 6 (.q 7 (.q 8 (.q 9 (.e 12 (.e 13 .nil))))))))) (.e 11 (.e 5 (.e 6 (.q 7 (.q 8 (.q 9 (.e 12 (.e 13 .nil)))))))))) (.e 11 (.e 2 (.e 5 (.e 6 (.q 7 (.q 8 (.q 9 (.e 12 (.e 13 .nil))))))))))) (.e 11 (.both (.e 2 (.both (.e 5 (.both (.e 6 (.q 7 (.q 8 (.q 9 (.e 10 (.e 12 (.e 13 .nil))))))) (.e 10 (.e 6 (.q 7 (.q 8 (.q 9 (.e 12 (.e 13 .nil))))))))) (.e 10 (.e 5 (.e 6 (.q 7 (.q 8 (.q 9 (.e 12 (.e 13 .nil)))))))))) (.e 10 (.e 2 (.e 5 (.e 6 (.q 7 (.q 8 (.q 9 (.e 12 (.e 13 .nil))))))))))))))))) (by kernel_rfl) (by intro c a d v w h; cases d <;> exact h) (by kernel_rfl) H ?_ (fun key1 w3 H2 => ?_); rotate_left 2; (revert w3; intro w2 H))
      | (guard_target =~ Key 1 _; refine ⟨?_⟩; intro A5 k5 l5 g5 q5 p5 b5 o5 f5 A6 k6 l6 g6 q6 p6 b6 o6 f6 A7 k7 l7 A8 k8 l8 g7 q7 p7 g8 q8 p8 b7 o7 f7 b8 o8 f8 nb10 nb11 w2 H)
      | (go_at_call 56; (with_reducible refine (on (FW (fun _ => False) _) _ (H.fw_lt rfl hF)).mono ?_); rintro e w3 ⟨A5, k5, l5, rfl, hb, s5, g5, q5, p5⟩; replace H := H.ext hb; clear hb; obtain ⟨b5, o5, H4, f5⟩ := H.addSl s5; clear H s5; have H := H4; clear H4; dsimp only; (refine hK _ _ ⟨_, H, by repeat first | exact .here | apply Suf.there⟩ ?_; clear hK K; (try simp only [Act.put, List.setIfInBounds_toArray, List.set_cons_succ, List.set_cons_zero, cells_iV, iL_length, setL_i, setL_ii, agg_iL, cells_rV, rL_length, setL_r, setL_rr, agg_rL])))
      | (go_at_call 56; (with_reducible refine (od (FW (fun _ => False) _) _ (H.fw_lt rfl hF)).mono ?_); rintro e w3 ⟨A6, k6, l6, rfl, hb, s6, g6, q6, p6⟩; replace H := H.ext hb; clear hb; obtain ⟨b6, o6, H4, f6⟩ := H.addSl s6; clear H s6; have H := H4; clear H4; dsimp only; (refine hK _ _ ⟨_, H, by repeat first | exact .here | apply Suf.there⟩ ?_; clear hK K; (try simp only [Act.put, List.setIfInBounds_toArray, List.set_cons_succ, List.set_cons_zero, cells_iV, iL_length, setL_i, setL_ii, agg_iL, cells_rV, rL_length, setL_r, setL_rr, agg_rL])))
      | (go_at_call 69; (with_reducible refine (hD (FW (fun _ => False) _) _ (H.fw_lt rfl hF) _ _ _ _ l5 l6 (by first | exact H.giveRd m1 f5 | exact H.giveRd m2 f5 | exact H.giveRd m3 f5) (by first | exact H.giveRd m0 f6 | exact H.giveRd m1 f6 | exact H.giveRd m2 f6) g5 g6 q5 q6 p5 p6).mono ?_); rintro e w3 ⟨A7, k7, l7, A8, k8, l8, rfl, hb, s7, g7, q7, p7, s8, g8, q8, p8⟩; replace H := H.ext hb; clear hb; obtain ⟨b7, o7, H4, f7⟩ := H.addSl s7; clear H s7; have H := H4; clear H4; replace s8 := Sl.more (r := .rd A7 b7 o7 (dl l7)) s8 rfl; obtain ⟨b8, o8, H4, f8⟩ := H.addSl s8; clear H s8; have H := H4; clear H4; dsimp only; (refine hK _ _ ⟨_, H, by repeat first | exact .here | apply Suf.there⟩ ?_; clear hK K; (try simp only [Act.put, List.setIfInBounds_toArray, List.set_cons_succ, List.set_cons_zero, cells_iV, iL_length, setL_i, setL_ii, agg_iL, cells_rV, rL_length, setL_r, setL_rr, agg_rL])))
      | (go_at_call 71; (with_reducible refine (hW (FW (fun _ => False) _) _ (H.fw_lt rfl hF) _ _ l7 (by exact H.giveRd m4 f7) g7 q7 p7).mono ?_); rintro e w3 ⟨rfl, hb⟩; replace H := H.ext hb; clear hb; dsimp only; (skip))
      | (guard_target =~ wpList _ _ _ (_ :: _) _ _; (first | (guard_target =~ wpList _ _ _ (Oper.mk _ (.load _ _) _ _ _ _ :: _) _ _; refine BigFrame.wpList_want rfl (fun K hK => ?_); (first | (refine o_loadC (v := ?_) (row := ?_) rfl rfl H ?_ ?_ ?_ (hK _ _ ?_); rotate_left 2; (repeat first | exact .head _ | apply List.Mem.tail); (exact rfl); (focus (intro _; simp [cells_iV, iL_length, setL_i, setL_ii, agg_iL, cells_rV, rL_length, setL_r, setL_rr, agg_rL]; done))) | (refine o_loadNC (row := ?_) rfl rfl H ?_ ?_ ?_ (hK _ _ ?_); rotate_left 1; (repeat first | exact .head _ | apply List.Mem.tail); (focus (intro _; simp [cells_iV, iL_length, setL_i, setL_ii, agg_iL, cells_rV, rL_length, setL_r, setL_rr, agg_rL]; done)); (focus (intro _; simp [cells_iV, iL_length, setL_i, setL_ii, agg_iL, cells_rV, rL_length, setL_r, setL_rr, agg_rL]; done)))); clear hK K) | (guard_target =~ wpList _ _ _ (Oper.mk _ (.store _ _ _) _ _ _ _ :: _) _ _; refine BigFrame.wpList_want rfl (fun K hK => ?_); refine o_store (l' := ?_) (row := ?_) rfl rfl H rfl ?_ ?_ ?_ ?_ (fun w3 H2 => hK _ _ ?_); rotate_left 2; (first | exact r0 | exact r7); (focus (intro _; (simp [Act.eval, List.getD, cells_iV, iL_length, setL_i, setL_ii, agg_iL, cells_rV, rL_length, setL_r, setL_rr, agg_rL]; done))); (focus (simp [Act.eval, List.getD, cells_iV, iL_length, setL_i, setL_ii, agg_iL, cells_rV, rL_length, setL_r, setL_rr, agg_rL]; done)); (exact rfl); clear hK K; clear H; (try clear w2); revert w3; intro w2 H; (try simp [Act.eval, List.getD, cells_iV, iL_length, setL_i, setL_ii, agg_iL, cells_rV, rL_length, setL_r, setL_rr, agg_rL] at H); (try simp [Value.cells, setL, cells_iV, iL_length, setL_i, setL_ii, agg_iL, cells_rV, rL_length, setL_r, setL_rr, agg_rL] at H)) | ((first | (guard_target =~ wpList _ _ _ (Oper.mk _ (.alloc _) _ _ _ _ :: _) _ _; refine BigFrame.wpList_want rfl (fun K hK => ?_); refine o_alloc (z := ?_) rfl ?_ H rfl (fun w3 b2 he H2 => hK _ _ ?_); rotate_left 1; (focus (intro _; simp; with_reducible exact rfl))) | (guard_target =~ wpList _ _ _ (Oper.mk _ (.box _ _) _ _ _ _ :: _) _ _; refine BigFrame.wpList_want rfl (fun K hK => ?_); refine o_box rfl H rfl (fun w3 b2 he H2 => hK _ _ ?_))); clear hK K he; clear H; (try clear w2); revert w3; intro w2 H; (try simp [Act.eval, List.getD, cells_iV, iL_length, setL_i, setL_ii, agg_iL, cells_rV, rL_length, setL_r, setL_rr, agg_rL] at H); (try simp [Value.cells, setL, cells_iV, iL_length, setL_i, setL_ii, agg_iL, cells_rV, rL_length, setL_r, setL_rr, agg_rL] at H); (first | (clear tk0; rename Nat => c1) | (clear tk1; rename Nat => c2) | (clear tk2; rename Nat => c3)))); simp only [Act.put, List.setIfInBounds_toArray, List.set_cons_succ, List.set_cons_zero, cells_iV, iL_length, setL_i, setL_ii, agg_iL, cells_rV, rL_length, setL_r, setL_rr, agg_rL])
      | (guard_target =~ wpTree _ _ _ _ _ _ _; first | (guard_target =~ wpTree _ _ _ (Tr.q _ _) _ _ _; first | (refine tree_quiet ⟨_, H, by repeat first | exact .here | apply Suf.there⟩ rfl rfl rfl (fun K hK => ?_); simp only [List.getElem_toArray, List.getElem_cons_succ, List.getElem_cons_zero]; first | (guard_target =~ Oper.quiet _ (Oper.mk _ (.load _ _) _ _ _ _) _ _ _; (first | (refine q_loadNum (n := ?_) (d := ?_) rfl rfl ?_ ?_ ?_ (hK _ ?_); rotate_left 2; (repeat first | exact .head _ | apply List.Mem.tail); (focus (intro _; simp [cells_iV, iL_length, setL_i, setL_ii, agg_iL, cells_rV, rL_length, setL_r, setL_rr, agg_rL]; done)); (focus (intro _; simp [cells_iV, iL_length, setL_i, setL_ii, agg_iL, cells_rV, rL_length, setL_r, setL_rr, agg_rL]; done))) | (refine q_loadDen (n := ?_) (d := ?_) rfl rfl ?_ ?_ ?_ (hK _ ?_); rotate_left 2; (repeat first | exact .head _ | apply List.Mem.tail); (focus (intro _; simp [cells_iV, iL_length, setL_i, setL_ii, agg_iL, cells_rV, rL_length, setL_r, setL_rr, agg_rL]; done)); (focus (intro _; simp [cells_iV, iL_length, setL_i, setL_ii, agg_iL, cells_rV, rL_length, setL_r, setL_rr, agg_rL]; done)))); clear hK K; simp only [Act.put, List.setIfInBounds_toArray, List.set_cons_succ, List.set_cons_zero, cells_iV, iL_length, setL_i, setL_ii, agg_iL, cells_rV, rL_length, setL_r, setL_rr, agg_rL]) | (go_big_quiet_op; (try refine ⟨_, fun _ _ => rfl, ?_⟩); refine hK _ ?_; clear hK K)) | (refine tree_skip ⟨_, H, by repeat first | exact .here | apply Suf.there⟩ rfl rfl ?_; simp only [List.getElem_toArray, List.getElem_cons_succ, List.getElem_cons_zero, Act.put, List.setIfInBounds_toArray, List.set_cons_succ, List.set_cons_zero])) | (guard_target =~ wpTree _ _ _ (Tr.e _ _) _ _ _; (first | (guard_target =~ wpTree _ _ _ (Tr.e 10 _) _ _ _; refine tree_one rfl rfl (fun K hK => ?_); simp only [List.getElem_toArray, List.getElem_cons_succ, List.getElem_cons_zero]; ((guard_target =~ Oper.wp _ (Oper.mk _ (.alloc _) _ _ _ _) _ _ _ _; refine o_alloc (z := ?_) rfl ?_ H rfl (fun w3 b2 he H2 => hK _ _ ⟨_, H2, ?_⟩ ?_); rotate_left 1; (focus (intro _; simp; with_reducible exact rfl))); (guard_target =~ Suf _ _; repeat first | exact .here | apply Suf.there); clear hK K he; clear H; (try clear w2); revert w3; intro w2 H; (try simp [Act.eval, List.getD, cells_iV, iL_length, setL_i, setL_ii, agg_iL, cells_rV, rL_length, setL_r, setL_rr, agg_rL] at H); (try simp [Value.cells, setL, cells_iV, iL_length, setL_i, setL_ii, agg_iL, cells_rV, rL_length, setL_r, setL_rr, agg_rL] at H)); simp only [Act.put, List.setIfInBounds_toArray, List.set_cons_succ, List.set_cons_zero, cells_iV, iL_length, setL_i, setL_ii, agg_iL, cells_rV, rL_length, setL_r, setL_rr, agg_rL]; rename Nat => nb10) | (guard_target =~ wpTree _ _ _ (Tr.e 11 _) _ _ _; refine tree_one rfl rfl (fun K hK => ?_); simp only [List.getElem_toArray, List.getElem_cons_succ, List.getElem_cons_zero]; ((guard_target =~ Oper.wp _ (Oper.mk _ (.alloc _) _ _ _ _) _ _ _ _; refine o_alloc (z := ?_) rfl ?_ H rfl (fun w3 b2 he H2 => hK _ _ ⟨_, H2, ?_⟩ ?_); rotate_left 1; (focus (intro _; simp; with_reducible exact rfl))); (guard_target =~ Suf _ _; repeat first | exact .here | apply Suf.there); clear hK K he; clear H; (try clear w2); revert w3; intro w2 H; (try simp [Act.eval, List.getD, cells_iV, iL_length, setL_i, setL_ii, agg_iL, cells_rV, rL_length, setL_r, setL_rr, agg_rL] at H); (try simp [Value.cells, setL, cells_iV, iL_length, setL_i, setL_ii, agg_iL, cells_rV, rL_length, setL_r, setL_rr, agg_rL] at H)); simp only [Act.put, List.setIfInBounds_toArray, List.set_cons_succ, List.set_cons_zero, cells_iV, iL_length, setL_i, setL_ii, agg_iL, cells_rV, rL_length, setL_r, setL_rr, agg_rL]; rename Nat => nb11))) | (guard_target =~ wpTree _ _ _ (Tr.both _ _) _ _ _; refine tree_both ?_ ?_) | (guard_target =~ wpTree _ _ _ (Tr.e _ _) _ _ _; first | (refine tree_one rfl rfl (fun K hK => ?_); simp only [List.getElem_toArray, List.getElem_cons_succ, List.getElem_cons_zero]; first | ((guard_target =~ Oper.wp _ (Oper.mk _ (.store _ _ _) _ _ _ _) _ _ _ _; refine o_store (l' := ?_) (row := ?_) rfl rfl H rfl ?_ ?_ ?_ ?_ (fun w3 H2 => hK _ _ ⟨_, H2, ?_⟩ ?_); rotate_left 2; (first | exact r0 | exact r1 | exact r2 | exact r3 | exact r4 | exact r5); (focus (intro _; (simp [Act.eval, Value.cells, List.getD, cells_iV, iL_length, setL_i, setL_ii, agg_iL, cells_rV, rL_length, setL_r, setL_rr, agg_rL]; done))); (focus (simp [Act.eval, Value.cells, List.getD, cells_iV, iL_length, setL_i, setL_ii, agg_iL, cells_rV, rL_length, setL_r, setL_rr, agg_rL]; done)); (exact rfl); (guard_target =~ Suf _ _; repeat first | exact .here | apply Suf.there); clear hK K; clear H; (try clear w2); revert w3; intro w2 H; (try simp [Act.eval, List.getD, cells_iV, iL_length, setL_i, setL_ii, agg_iL, cells_rV, rL_length, setL_r, setL_rr, agg_rL] at H); (try simp [Value.cells, setL, cells_iV, iL_length, setL_i, setL_ii, agg_iL, cells_rV, rL_length, setL_r, setL_rr, agg_rL] at H)); simp only [Act.put, List.setIfInBounds_toArray, List.set_cons_succ, List.set_cons_zero, cells_iV, iL_length, setL_i, setL_ii, agg_iL, cells_rV, rL_length, setL_r, setL_rr, agg_rL]) | (go_big_op; (skip))) | (refine tree_one_skip ⟨_, H, by repeat first | exact .here | apply Suf.there⟩ rfl rfl ?_; simp only [List.getElem_toArray, List.getElem_cons_succ, List.getElem_cons_zero, Act.put, List.setIfInBounds_toArray, List.set_cons_succ, List.set_cons_zero])) | (refine tree_nil ?_; (first | replace H : Own _ _ _ (Res.rd _ b8 _ _ :: _) := H | replace H : Own _ _ _ (Res.rd _ b8 _ _ :: _) := H.front1 | replace H : Own _ _ _ (Res.rd _ b8 _ _ :: _) := H.front2); (first | replace H : Own _ _ _ (Res.rd _ b7 _ _ :: _) := H.front1 | replace H : Own _ _ _ (Res.rd _ b7 _ _ :: _) := H.front2 | replace H : Own _ _ _ (Res.rd _ b7 _ _ :: _) := H.front3); (first | replace H : Own _ _ _ (Res.rd _ b6 _ _ :: _) := H.front2 | replace H : Own _ _ _ (Res.rd _ b6 _ _ :: _) := H.front3 | replace H : Own _ _ _ (Res.rd _ b6 _ _ :: _) := H.front4); (first | replace H : Own _ _ _ (Res.rd _ b5 _ _ :: _) := H.front3 | replace H : Own _ _ _ (Res.rd _ b5 _ _ :: _) := H.front4 | replace H : Own _ _ _ (Res.rd _ b5 _ _ :: _) := H.front5); (first | replace H : Own _ _ _ (Res.cells nb11 _ :: _) := H.front4 | replace H : Own _ _ _ (Res.cells nb11 _ :: _) := H.front5); (replace H : Own _ _ _ (Res.cells nb10 _ :: _) := H.front5); revert w2; revert nb11; revert nb10; revert f8; revert o8; revert b8; revert f7; revert o7; revert b7; revert p8; revert q8; revert g8; revert p7; revert q7; revert g7; revert l8; revert k8; revert A8; revert l7; revert k7; revert A7; revert f6; revert o6; revert b6; revert p6; revert q6; revert g6; revert l6; revert k6; revert A6; revert f5; revert o5; revert b5; revert p5; revert q5; revert g5; revert l5; revert k5; revert A5; exact key1.out) | (guard_target =~ wpTree _ _ _ Tr.nil _ _ _; refine tree_nil ?_)))
    have hr := H.loadVarN (P := Try.prog) (ty := 23) (b := c2) (row := iL v) (by simp) (by simp) (by simp [iL_length])
    exact ⟨bodyPost_ret (v := iV v) (by simp [results, Try.results38, asAddr, hr, agg_iL]) rfl ⟨rfl, H.below⟩⟩
set_option maxRecDepth 200000 in
set_option maxHeartbeats 8000000 in
theorem ref4Text_any (n d : Int) (hn : R256 n) (hd : R256 d) (w : World) :
    Calls Try.prog 39 #[rV n d] w fun e' w' => e' = .returned (.string ⟨(if d = 1 then textL n else textL n ++ [47] ++ textL d).toArray⟩) ∧ Below w.heap.size w w' := by
  have H := Own.start w
  have hF : ∀ k : Nat, (fun _ : Nat => False) k → k < w.heap.size := fun k h => h.elim
  have on := fun F w hF => refOf_any F w hF n hn
  have od := fun F w hF => refOf_any F w hF d hd
  have hO := fun F w hF A c l ha g => refOne_any F w hF A c l d ha g
  have tn := fun F w hF A c l ha g => refText_any F w hF A c l n ha g (fit450 hn g)
  have td := fun F w hF A c l ha g => refText_any F w hF A c l d ha g (fit450 hd g)
  by_cases h1 : d = 1
  · rw [if_pos h1]
    rw [show decide (d = 1) = true by simpa using h1] at hO
    clear h1 td
    generalize textL n = s at *
    go_enter Try.func39, Try.ntmps39
    have tk0 : True := trivial
    go_wp2_with (first
      | (go_at_call 56; (with_reducible refine (od (FW (fun _ => False) _) _ (H.fw_lt rfl hF)).mono ?_); rintro e w3 ⟨A5, k5, l5, rfl, hb, s5, g5, q5, p5⟩; replace H := H.ext hb; clear hb; obtain ⟨b5, o5, H4, f5⟩ := H.addSl s5; clear H s5; have H := H4; clear H4; dsimp only; (skip))
      | (go_at_call 56; (with_reducible refine (on (FW (fun _ => False) _) _ (H.fw_lt rfl hF)).mono ?_); rintro e w3 ⟨A6, k6, l6, rfl, hb, s6, g6, q6, p6⟩; replace H := H.ext hb; clear hb; obtain ⟨b6, o6, H4, f6⟩ := H.addSl s6; clear H s6; have H := H4; clear H4; dsimp only; (skip))
      | (go_at_call 64; (with_reducible refine (hO (FW (fun _ => False) _) _ (H.fw_lt rfl hF) _ _ l5 (by exact H.giveRd m0 f5) g5).mono ?_); rintro e w3 ⟨rfl, hb⟩; replace H := H.ext hb; clear hb; dsimp only; (skip))
      | (go_at_call 72; (with_reducible refine (tn (FW (fun _ => False) _) _ (H.fw_lt rfl hF) _ _ l6 (by exact H.giveRd m0 f6) g6 q6 p6).mono ?_); rintro e w3 ⟨rfl, hb⟩; replace H := H.ext hb; clear hb; dsimp only; (skip))
      | (guard_target =~ wpList _ _ _ (_ :: _) _ _; (first | (guard_target =~ wpList _ _ _ (Oper.mk _ (.load _ _) _ _ _ _ :: _) _ _; refine BigFrame.wpList_want rfl (fun K hK => ?_); (first | (refine o_loadNum (n := ?_) (d := ?_) rfl rfl H ?_ ?_ ?_ (hK _ _ ?_); rotate_left 2; (repeat first | exact .head _ | apply List.Mem.tail); (focus (intro _; simp [cells_rV, rL_length, setL_r, setL_rr, agg_rL]; done)); (focus (intro _; simp [cells_rV, rL_length, setL_r, setL_rr, agg_rL]; done))) | (refine o_loadDen (n := ?_) (d := ?_) rfl rfl H ?_ ?_ ?_ (hK _ _ ?_); rotate_left 2; (repeat first | exact .head _ | apply List.Mem.tail); (focus (intro _; simp [cells_rV, rL_length, setL_r, setL_rr, agg_rL]; done)); (focus (intro _; simp [cells_rV, rL_length, setL_r, setL_rr, agg_rL]; done)))); clear hK K) | ((guard_target =~ wpList _ _ _ (Oper.mk _ (.box _ _) _ _ _ _ :: _) _ _; refine BigFrame.wpList_want rfl (fun K hK => ?_); refine o_box rfl H rfl (fun w3 b2 he H2 => hK _ _ ?_)); clear hK K he; clear H; (try clear w2); revert w3; intro w2 H; (try simp [Act.eval, List.getD, cells_rV, rL_length, setL_r, setL_rr, agg_rL] at H); (try simp [Value.cells, setL, cells_rV, rL_length, setL_r, setL_rr, agg_rL] at H); (clear tk0; rename Nat => c1))); simp only [Act.put, List.setIfInBounds_toArray, List.set_cons_succ, List.set_cons_zero, cells_rV, rL_length, setL_r, setL_rr, agg_rL]))
    go_ret
    exact ⟨rfl, H.below⟩
  · rw [if_neg h1]
    rw [show decide (d = 1) = false by simpa using h1] at hO
    rw [← str3]
    have ln := text_len hn
    have ld := text_len hd
    clear h1
    generalize (⟨(textL n).toArray⟩ : ByteArray) = S at *
    generalize (⟨(textL d).toArray⟩ : ByteArray) = T at *
    have k1 : ¬ 9223372036854775807 < S.size + 1 := by omega
    have k2 : ¬ 9223372036854775807 < S.size + 1 + T.size := by omega
    go_enter Try.func39, Try.ntmps39
    have tk0 : True := trivial
    go_wp2_with (first
      | (guard_target =~ Code.wp _ (Code.region 3 _ true) _ _ _; refine region_tree0 3 (G := True) (.q 0 (.q 1 (.q 5 (.q 6 (.e 2 (.e 3 (.q 4 (.e 7 (.e 8 (.q 9 (.q 10 .nil))))))))))) (by kernel_rfl) (by intro c a d v w h; cases d <;> exact h) (by kernel_rfl) H ⟨trivial⟩ (fun _ w3 H2 => ?_); (clear H; (try clear w2); revert w3; intro w2 H))
      | (go_at_call 56; (with_reducible refine (od (FW (fun _ => False) _) _ (H.fw_lt rfl hF)).mono ?_); rintro e w3 ⟨A5, k5, l5, rfl, hb, s5, g5, q5, p5⟩; replace H := H.ext hb; clear hb; obtain ⟨b5, o5, H4, f5⟩ := H.addSl s5; clear H s5; have H := H4; clear H4; dsimp only; (first | (refine hK _ _ ⟨_, H, by repeat first | exact .here | apply Suf.there⟩ ?_; clear hK K; (try simp only [Act.put, List.setIfInBounds_toArray, List.set_cons_succ, List.set_cons_zero, cells_rV, rL_length, setL_r, setL_rr, agg_rL])) | skip))
      | (go_at_call 56; (with_reducible refine (on (FW (fun _ => False) _) _ (H.fw_lt rfl hF)).mono ?_); rintro e w3 ⟨A6, k6, l6, rfl, hb, s6, g6, q6, p6⟩; replace H := H.ext hb; clear hb; obtain ⟨b6, o6, H4, f6⟩ := H.addSl s6; clear H s6; have H := H4; clear H4; dsimp only; (refine hK _ _ ⟨_, H, by repeat first | exact .here | apply Suf.there⟩ ?_; clear hK K; (try simp only [Act.put, List.setIfInBounds_toArray, List.set_cons_succ, List.set_cons_zero, cells_rV, rL_length, setL_r, setL_rr, agg_rL])))
      | (go_at_call 64; (with_reducible refine (hO (FW (fun _ => False) _) _ (H.fw_lt rfl hF) _ _ l5 (by exact H.giveRd m0 f5) g5).mono ?_); rintro e w3 ⟨rfl, hb⟩; replace H := H.ext hb; clear hb; dsimp only; (skip))
      | (go_at_call 72; (with_reducible refine (tn (FW (fun _ => False) _) _ (H.fw_lt rfl hF) _ _ l6 (by first | exact H.giveRd m0 f6 | exact H.giveRd m1 f6) g6 q6 p6).mono ?_); rintro e w3 ⟨rfl, hb⟩; replace H := H.ext hb; clear hb; dsimp only; (refine hK _ _ ⟨_, H, by repeat first | exact .here | apply Suf.there⟩ ?_; clear hK K; (try simp only [Act.put, List.setIfInBounds_toArray, List.set_cons_succ, List.set_cons_zero, cells_rV, rL_length, setL_r, setL_rr, agg_rL])))
      | (go_at_call 72; (with_reducible refine (td (FW (fun _ => False) _) _ (H.fw_lt rfl hF) _ _ l5 (by exact H.giveRd m0 f5) g5 q5 p5).mono ?_); rintro e w3 ⟨rfl, hb⟩; replace H := H.ext hb; clear hb; dsimp only; (refine hK _ _ ⟨_, H, by repeat first | exact .here | apply Suf.there⟩ ?_; clear hK K; (try simp only [Act.put, List.setIfInBounds_toArray, List.set_cons_succ, List.set_cons_zero, cells_rV, rL_length, setL_r, setL_rr, agg_rL])))
      | (guard_target =~ wpList _ _ _ (_ :: _) _ _; (first | (guard_target =~ wpList _ _ _ (Oper.mk _ (.load _ _) _ _ _ _ :: _) _ _; refine BigFrame.wpList_want rfl (fun K hK => ?_); (refine o_loadDen (n := ?_) (d := ?_) rfl rfl H ?_ ?_ ?_ (hK _ _ ?_); rotate_left 2; (repeat first | exact .head _ | apply List.Mem.tail); (focus (intro _; simp [cells_rV, rL_length, setL_r, setL_rr, agg_rL]; done)); (focus (intro _; simp [cells_rV, rL_length, setL_r, setL_rr, agg_rL]; done))); clear hK K) | ((guard_target =~ wpList _ _ _ (Oper.mk _ (.box _ _) _ _ _ _ :: _) _ _; refine BigFrame.wpList_want rfl (fun K hK => ?_); refine o_box rfl H rfl (fun w3 b2 he H2 => hK _ _ ?_)); clear hK K he; clear H; (try clear w2); revert w3; intro w2 H; (try simp [Act.eval, List.getD, cells_rV, rL_length, setL_r, setL_rr, agg_rL] at H); (try simp [Value.cells, setL, cells_rV, rL_length, setL_r, setL_rr, agg_rL] at H); (clear tk0; rename Nat => c1))); simp only [Act.put, List.setIfInBounds_toArray, List.set_cons_succ, List.set_cons_zero, cells_rV, rL_length, setL_r, setL_rr, agg_rL])
      | (guard_target =~ wpTree _ _ _ _ _ _ _; first | (guard_target =~ wpTree _ _ _ (Tr.q _ _) _ _ _; first | (refine tree_quiet ⟨_, H, by repeat first | exact .here | apply Suf.there⟩ rfl rfl rfl (fun K hK => ?_); simp only [List.getElem_toArray, List.getElem_cons_succ, List.getElem_cons_zero]; first | (guard_target =~ Oper.quiet _ (Oper.mk _ (.load _ _) _ _ _ _) _ _ _; (first | (refine q_loadNum (n := ?_) (d := ?_) rfl rfl ?_ ?_ ?_ (hK _ ?_); rotate_left 2; (repeat first | exact .head _ | apply List.Mem.tail); (focus (intro _; simp [cells_rV, rL_length, setL_r, setL_rr, agg_rL]; done)); (focus (intro _; simp [cells_rV, rL_length, setL_r, setL_rr, agg_rL]; done))) | (refine q_loadDen (n := ?_) (d := ?_) rfl rfl ?_ ?_ ?_ (hK _ ?_); rotate_left 2; (repeat first | exact .head _ | apply List.Mem.tail); (focus (intro _; simp [cells_rV, rL_length, setL_r, setL_rr, agg_rL]; done)); (focus (intro _; simp [cells_rV, rL_length, setL_r, setL_rr, agg_rL]; done)))); clear hK K; simp only [Act.put, List.setIfInBounds_toArray, List.set_cons_succ, List.set_cons_zero, cells_rV, rL_length, setL_r, setL_rr, agg_rL]) | (go_big_quiet_op; (try refine ⟨_, fun _ _ => rfl, ?_⟩); refine hK _ ?_; clear hK K)) | (refine tree_skip ⟨_, H, by repeat first | exact .here | apply Suf.there⟩ rfl rfl ?_; simp only [List.getElem_toArray, List.getElem_cons_succ, List.getElem_cons_zero, Act.put, List.setIfInBounds_toArray, List.set_cons_succ, List.set_cons_zero])) | (guard_target =~ wpTree _ _ _ (Tr.both _ _) _ _ _; refine tree_both ?_ ?_) | (guard_target =~ wpTree _ _ _ (Tr.e _ _) _ _ _; first | (refine tree_one rfl rfl (fun K hK => ?_); simp only [List.getElem_toArray, List.getElem_cons_succ, List.getElem_cons_zero]; first | ((first | fail); simp only [Act.put, List.setIfInBounds_toArray, List.set_cons_succ, List.set_cons_zero, cells_rV, rL_length, setL_r, setL_rr, agg_rL]) | (go_big_op; (skip))) | (refine tree_one_skip ⟨_, H, by repeat first | exact .here | apply Suf.there⟩ rfl rfl ?_; simp only [List.getElem_toArray, List.getElem_cons_succ, List.getElem_cons_zero, Act.put, List.setIfInBounds_toArray, List.set_cons_succ, List.set_cons_zero])) | (guard_target =~ wpTree _ _ _ Tr.nil _ _ _; refine tree_nil ?_)))
    go_ret
    exact ⟨rfl, H.below⟩
end Go.Proofs.Ytmmieilogpmocaa

/-
  The statements of layer 4: what is asked of a fraction.
-/
namespace Go.Proofs.Ytmmieilogpmocaa
set_option linter.unusedVariables false
set_option linter.unusedSimpArgs false
open Go.RowKit

set_option maxRecDepth 200000 in
set_option maxHeartbeats 16000000 in
theorem law_RatioAsks (n d m e : Int) (w : World) (hn : R256 n) (hd : R256 d) (hm : R256 m) (he : R256 e) :
    Calls Try.prog 8 #[rV n d, rV m e] w fun e' w' => e' = .returned (.bool true) ∧ Below w.heap.size w w' := by
  have H := Own.start w
  have hR1 := fun w => ref4Right_any n d hn hd w
  have hR2 := fun w => ref4Right_any m e hm he w
  rw [show decide (0 < d ∧ gcdZ n d = 1) = rightB n d from rfl] at hR1
  rw [show decide (0 < e ∧ gcdZ m e = 1) = rightB m e from rfl] at hR2
  have hr1 := fun w => Right_any n d hn hd w
  have hS := fun w => ratSign_any n d hn hd w
  have hF := fun w => ratFloor_any n d hn hd w
  have hT := fun w => ratText_any n d hn hd w
  have hC := fun w => ratCmp_any n d m e hn hd hm he w
  have g1 := guard_iVV
  cases h1 : rightB n d with
  | false =>
    rw [h1] at hR1 hr1 hS hC
    rw [show floorR n d = 0 by unfold floorR; rw [h1]; rfl] at hF
    rw [show textR n d = [] by unfold textR; rw [h1]; rfl] at hT
    simp only [Bool.false_and, Bool.false_eq_true, if_false] at hS hC
    have e0 := eq_iV 0 0 r256_0 r256_0
    rw [show decide ((0 : Int) = 0) = true from rfl] at e0
    have b0 : ∀ w, (Instr.build 24 #[]).run Try.prog w = .ok (iV 0) w := fun w => by kernel_rfl
    clear h1 hR2
    go_enter Try.func8, Try.ntmps8
    have tk0 : True := trivial
    have tk1 : True := trivial
    have tk2 : True := trivial
    have tk3 : True := trivial
    have tk4 : True := trivial
    have tk5 : True := trivial
    have tk6 : True := trivial
    have tk7 : True := trivial
    go_wp2_with (first
      | (go_at_call 17; (with_reducible refine (awake4_any _).mono ?_); rintro e w3 ⟨rfl, hb⟩; replace H := H.ext hb; clear hb; dsimp only; (skip))
      | (go_at_call 18; (with_reducible refine (plain4_any _ _ _).mono ?_); rintro e w3 ⟨rfl, hb⟩; replace H := H.ext hb; clear hb; dsimp only; (skip))
      | (go_at_call 32; (with_reducible refine (hR1 _).mono ?_); rintro e w3 ⟨rfl, hb⟩; replace H := H.ext hb; clear hb; dsimp only; (skip))
      | (go_at_call 19; (with_reducible refine (hr1 _).mono ?_); rintro e w3 ⟨rfl, hb⟩; replace H := H.ext hb; clear hb; dsimp only; (skip))
      | (go_at_call 33; (with_reducible refine (hS _).mono ?_); rintro e w3 ⟨rfl, hb⟩; replace H := H.ext hb; clear hb; dsimp only; (skip))
      | (go_at_call 34; (with_reducible refine (hF _).mono ?_); rintro e w3 ⟨rfl, hb⟩; replace H := H.ext hb; clear hb; dsimp only; (skip))
      | (go_at_call 35; (with_reducible refine (hT _).mono ?_); rintro e w3 ⟨rfl, hb⟩; replace H := H.ext hb; clear hb; dsimp only; (skip))
      | (go_at_call 36; (with_reducible refine (hC _).mono ?_); rintro e w3 ⟨rfl, hb⟩; replace H := H.ext hb; clear hb; dsimp only; (skip))
      | (guard_target =~ wpList _ _ _ (_ :: _) _ _; (first | (guard_target =~ wpList _ _ _ (Oper.mk _ (.load _ _) _ _ _ _ :: _) _ _; refine BigFrame.wpList_want rfl (fun K hK => ?_); (refine o_loadNC (row := ?_) rfl rfl H ?_ ?_ ?_ (hK _ _ ?_); rotate_left 1; (repeat first | exact .head _ | apply List.Mem.tail); (focus (intro _; simp [cells_iV, iL_length, setL_i, setL_ii, agg_iL, cells_rV, rL_length, setL_r, setL_rr, agg_rL]; done)); (focus (intro _; simp [cells_iV, iL_length, setL_i, setL_ii, agg_iL, cells_rV, rL_length, setL_r, setL_rr, agg_rL]; done))); clear hK K) | (guard_target =~ wpList _ _ _ (Oper.mk _ (.build _ _) _ _ _ _ :: _) _ _; refine BigFrame.wpList_want rfl (fun K hK => ?_); (refine o_build (v := ?_) (ps := ?_) rfl ?_ ?_ (hK _ _ ?_); rotate_left 2; (focus (simp [Act.eval]; with_reducible exact rfl)); (focus (intro w4; with_reducible exact b0 w4))); clear hK K) | (guard_target =~ wpList _ _ _ (Oper.mk _ (.store _ _ _) _ _ _ _ :: _) _ _; refine BigFrame.wpList_want rfl (fun K hK => ?_); refine o_store (l' := ?_) (row := ?_) rfl rfl H rfl ?_ ?_ ?_ ?_ (fun w3 H2 => hK _ _ ?_); rotate_left 2; (exact r0); (focus (intro _; (simp [Act.eval, List.getD, cells_iV, iL_length, setL_i, setL_ii, agg_iL, cells_rV, rL_length, setL_r, setL_rr, agg_rL]; done))); (focus (simp [Act.eval, List.getD, cells_iV, iL_length, setL_i, setL_ii, agg_iL, cells_rV, rL_length, setL_r, setL_rr, agg_rL]; done)); (exact rfl); clear hK K; clear H; (try clear w2); revert w3; intro w2 H; (try simp [Act.eval, List.getD, cells_iV, iL_length, setL_i, setL_ii, agg_iL, cells_rV, rL_length, setL_r, setL_rr, agg_rL] at H); (try simp [Value.cells, setL, cells_iV, iL_length, setL_i, setL_ii, agg_iL, cells_rV, rL_length, setL_r, setL_rr, agg_rL] at H)) | ((first | (guard_target =~ wpList _ _ _ (Oper.mk _ (.alloc _) _ _ _ _ :: _) _ _; refine BigFrame.wpList_want rfl (fun K hK => ?_); refine o_alloc (z := ?_) rfl ?_ H rfl (fun w3 b2 he H2 => hK _ _ ?_); rotate_left 1; (focus (intro _; simp; with_reducible exact rfl))) | (guard_target =~ wpList _ _ _ (Oper.mk _ (.box _ _) _ _ _ _ :: _) _ _; refine BigFrame.wpList_want rfl (fun K hK => ?_); refine o_box rfl H rfl (fun w3 b2 he H2 => hK _ _ ?_))); clear hK K he; clear H; (try clear w2); revert w3; intro w2 H; (try simp [Act.eval, List.getD, cells_iV, iL_length, setL_i, setL_ii, agg_iL, cells_rV, rL_length, setL_r, setL_rr, agg_rL] at H); (try simp [Value.cells, setL, cells_iV, iL_length, setL_i, setL_ii, agg_iL, cells_rV, rL_length, setL_r, setL_rr, agg_rL] at H); (first | (clear tk0; rename Nat => c1) | (clear tk1; rename Nat => c2) | (clear tk2; rename Nat => c3)))); simp only [Act.put, List.setIfInBounds_toArray, List.set_cons_succ, List.set_cons_zero, cells_iV, iL_length, setL_i, setL_ii, agg_iL, cells_rV, rL_length, setL_r, setL_rr, agg_rL]))
    go_ret
    exact ⟨rfl, H.below⟩
  | true =>
    rw [h1] at hR1 hr1 hS hC
    have hd0 := (rightB_iff.1 h1).1
    rw [show floorR n d = n / d by unfold floorR; rw [h1]; rfl] at hF
    rw [show textR n d = (if d = 1 then textL n else textL n ++ [47] ++ textL d) by unfold textR; rw [h1]; rfl] at hT
    have hS2 := fun w => ref4Sign_any n d hn w
    have hF2 := fun w => ref4Floor_any n d hn hd hd0 w
    have hT2 := fun w => ref4Text_any n d hn hd w
    have rf := floor_fits hn hd0
    have hE := ne_iV (n / d) (n / d) rf rf
    rw [show (!decide (n / d = n / d)) = false by simp] at hE
    simp only [if_true] at hS
    generalize signZ n = s at *
    generalize n / d = f at *
    generalize (if d = 1 then textL n else textL n ++ [47] ++ textL d) = t at *
    cases h2 : rightB m e with
    | false =>
      rw [h2] at hR2 hC
      simp only [Bool.and_false, Bool.false_eq_true, if_false] at hC
      clear h1 h2 hd0 rf
      go_enter Try.func8, Try.ntmps8
      have tk0 : True := trivial
      have tk1 : True := trivial
      have tk2 : True := trivial
      have tk3 : True := trivial
      have tk4 : True := trivial
      have tk5 : True := trivial
      have tk6 : True := trivial
      have tk7 : True := trivial
      go_wp2_with (first
        | (guard_target =~ Code.wp _ (Code.region 4 _ true) _ _ _; refine region_treeC0 4 (G := True) (.q 0 (.q 1 (.q 2 (.q 3 (.q 4 (.q 5 (.q 6 (.q 7 (.q 8 (.q 9 (.q 10 (.q 11 (.q 12 (.q 13 (.q 14 (.q 15 (.q 16 (.q 17 (.q 18 (.q 19 (.q 20 (.q 21 (.q 22 (.q 23 .nil)))))))))))))))))))))))) (by kernel_rfl) (by intro c a d v w h; cases d <;> exact h) (by kernel_rfl) H ⟨trivial⟩ (fun _ w3 H2 => ?_); (clear H; (try clear w2); revert w3; intro w2 H))
        | (go_at_call 17; (with_reducible refine (awake4_any _).mono ?_); rintro e w3 ⟨rfl, hb⟩; replace H := H.ext hb; clear hb; dsimp only; (skip))
        | (go_at_call 18; (with_reducible refine (plain4_any _ _ _).mono ?_); rintro e w3 ⟨rfl, hb⟩; replace H := H.ext hb; clear hb; dsimp only; (skip))
        | (go_at_call 32; (with_reducible refine (hR1 _).mono ?_); rintro e w3 ⟨rfl, hb⟩; replace H := H.ext hb; clear hb; dsimp only; (skip))
        | (go_at_call 32; (with_reducible refine (hR2 _).mono ?_); rintro e w3 ⟨rfl, hb⟩; replace H := H.ext hb; clear hb; dsimp only; (skip))
        | (go_at_call 36; (with_reducible refine (hC _).mono ?_); rintro e w3 ⟨rfl, hb⟩; replace H := H.ext hb; clear hb; dsimp only; (skip))
        | (guard_target =~ wpList _ _ _ (_ :: _) _ _; (first | (guard_target =~ wpList _ _ _ (Oper.mk _ (.load _ _) _ _ _ _ :: _) _ _; refine BigFrame.wpList_want rfl (fun K hK => ?_); (refine o_loadNC (row := ?_) rfl rfl H ?_ ?_ ?_ (hK _ _ ?_); rotate_left 1; (repeat first | exact .head _ | apply List.Mem.tail); (focus (intro _; simp [cells_iV, iL_length, setL_i, setL_ii, agg_iL, cells_rV, rL_length, setL_r, setL_rr, agg_rL]; done)); (focus (intro _; simp [cells_iV, iL_length, setL_i, setL_ii, agg_iL, cells_rV, rL_length, setL_r, setL_rr, agg_rL]; done))); clear hK K) | (guard_target =~ wpList _ _ _ (Oper.mk _ (.store _ _ _) _ _ _ _ :: _) _ _; refine BigFrame.wpList_want rfl (fun K hK => ?_); refine o_store (l' := ?_) (row := ?_) rfl rfl H rfl ?_ ?_ ?_ ?_ (fun w3 H2 => hK _ _ ?_); rotate_left 2; (exact r0); (focus (intro _; (simp [Act.eval, List.getD, cells_iV, iL_length, setL_i, setL_ii, agg_iL, cells_rV, rL_length, setL_r, setL_rr, agg_rL]; done))); (focus (simp [Act.eval, List.getD, cells_iV, iL_length, setL_i, setL_ii, agg_iL, cells_rV, rL_length, setL_r, setL_rr, agg_rL]; done)); (exact rfl); clear hK K; clear H; (try clear w2); revert w3; intro w2 H; (try simp [Act.eval, List.getD, cells_iV, iL_length, setL_i, setL_ii, agg_iL, cells_rV, rL_length, setL_r, setL_rr, agg_rL] at H); (try simp [Value.cells, setL, cells_iV, iL_length, setL_i, setL_ii, agg_iL, cells_rV, rL_length, setL_r, setL_rr, agg_rL] at H)) | ((first | (guard_target =~ wpList _ _ _ (Oper.mk _ (.alloc _) _ _ _ _ :: _) _ _; refine BigFrame.wpList_want rfl (fun K hK => ?_); refine o_alloc (z := ?_) rfl ?_ H rfl (fun w3 b2 he H2 => hK _ _ ?_); rotate_left 1; (focus (intro _; simp; with_reducible exact rfl))) | (guard_target =~ wpList _ _ _ (Oper.mk _ (.box _ _) _ _ _ _ :: _) _ _; refine BigFrame.wpList_want rfl (fun K hK => ?_); refine o_box rfl H rfl (fun w3 b2 he H2 => hK _ _ ?_))); clear hK K he; clear H; (try clear w2); revert w3; intro w2 H; (try simp [Act.eval, List.getD, cells_iV, iL_length, setL_i, setL_ii, agg_iL, cells_rV, rL_length, setL_r, setL_rr, agg_rL] at H); (try simp [Value.cells, setL, cells_iV, iL_length, setL_i, setL_ii, agg_iL, cells_rV, rL_length, setL_r, setL_rr, agg_rL] at H); (first | (clear tk0; rename Nat => c1) | (clear tk1; rename Nat => c2) | (clear tk2; rename Nat => c3)))); simp only [Act.put, List.setIfInBounds_toArray, List.set_cons_succ, List.set_cons_zero, cells_iV, iL_length, setL_i, setL_ii, agg_iL, cells_rV, rL_length, setL_r, setL_rr, agg_rL])
        | (guard_target =~ wpTreeC _ _ _ _ _ _ _; first | (guard_target =~ wpTreeC _ _ _ (Tr.e _ Tr.nil) _ _ _; refine treeC_last (by kernel_rfl) H rfl rfl (fun w3 H2 K hK => ?_); clear H; (try clear w2); (revert w3; intro w2 H); simp only [List.getElem_toArray, List.getElem_cons_succ, List.getElem_cons_zero]; (first | fail); simp only [Act.put, List.setIfInBounds_toArray, List.set_cons_succ, List.set_cons_zero, cells_iV, iL_length, setL_i, setL_ii, agg_iL, cells_rV, rL_length, setL_r, setL_rr, agg_rL]) | (guard_target =~ wpTreeC _ _ _ (Tr.q _ _) _ _ _; first | (refine treeC_quiet ⟨_, H, by repeat first | exact .here | apply Suf.there⟩ rfl rfl rfl (fun K hK => ?_); simp only [List.getElem_toArray, List.getElem_cons_succ, List.getElem_cons_zero]; first | (guard_target =~ Oper.quiet _ (Oper.mk _ (.load _ _) _ _ _ _) _ _ _; (refine q_loadNC (row := ?_) rfl rfl ?_ ?_ ?_ (hK _ ?_); rotate_left 1; (repeat first | exact .head _ | apply List.Mem.tail); (focus (intro _; simp [cells_iV, iL_length, setL_i, setL_ii, agg_iL, cells_rV, rL_length, setL_r, setL_rr, agg_rL]; done)); (focus (intro _; simp [cells_iV, iL_length, setL_i, setL_ii, agg_iL, cells_rV, rL_length, setL_r, setL_rr, agg_rL]; done))); clear hK K; simp only [Act.put, List.setIfInBounds_toArray, List.set_cons_succ, List.set_cons_zero, cells_iV, iL_length, setL_i, setL_ii, agg_iL, cells_rV, rL_length, setL_r, setL_rr, agg_rL]) | (go_big_quiet_op; (try refine ⟨_, fun _ _ => rfl, ?_⟩); refine hK _ ?_; clear hK K)) | (refine treeC_call (v := ?_) ⟨_, H, by repeat first | exact .here | apply Suf.there⟩ rfl rfl (fun w3 H K hK => ?_) ?_; rotate_left 1; (focus (simp only [List.getElem_toArray, List.getElem_cons_succ, List.getElem_cons_zero]; go_big_op; first | (go_at_call 17; (with_reducible refine (awake4_any _).mono ?_); rintro e w3 ⟨rfl, hb⟩; dsimp only; first | exact hK _ hb | exact hK _ (Ext.refl _)) | (go_at_call 18; (with_reducible refine (plain4_any _ _ _).mono ?_); rintro e w3 ⟨rfl, hb⟩; dsimp only; first | exact hK _ hb | exact hK _ (Ext.refl _)) | (go_at_call 32; (with_reducible refine (hR1 _).mono ?_); rintro e w3 ⟨rfl, hb⟩; dsimp only; first | exact hK _ hb | exact hK _ (Ext.refl _)) | (go_at_call 32; (with_reducible refine (hR2 _).mono ?_); rintro e w3 ⟨rfl, hb⟩; dsimp only; first | exact hK _ hb | exact hK _ (Ext.refl _)) | (go_at_call 19; (with_reducible refine (hr1 _).mono ?_); rintro e w3 ⟨rfl, hb⟩; dsimp only; first | exact hK _ hb | exact hK _ (Ext.refl _)) | (go_at_call 33; (with_reducible refine (hS _).mono ?_); rintro e w3 ⟨rfl, hb⟩; dsimp only; first | exact hK _ hb | exact hK _ (Ext.refl _)) | (go_at_call 34; (with_reducible refine (hF _).mono ?_); rintro e w3 ⟨rfl, hb⟩; dsimp only; first | exact hK _ hb | exact hK _ (Ext.refl _)) | (go_at_call 35; (with_reducible refine (hT _).mono ?_); rintro e w3 ⟨rfl, hb⟩; dsimp only; first | exact hK _ hb | exact hK _ (Ext.refl _)) | (go_at_call 36; (with_reducible refine (hC _).mono ?_); rintro e w3 ⟨rfl, hb⟩; dsimp only; first | exact hK _ hb | exact hK _ (Ext.refl _)) | (go_at_call 37; (with_reducible refine (hS2 _).mono ?_); rintro e w3 ⟨rfl, hb⟩; dsimp only; first | exact hK _ hb | exact hK _ (Ext.refl _)) | (go_at_call 38; (with_reducible refine (hF2 _).mono ?_); rintro e w3 ⟨rfl, hb⟩; dsimp only; first | exact hK _ hb | exact hK _ (Ext.refl _)) | (go_at_call 39; (with_reducible refine (hT2 _).mono ?_); rintro e w3 ⟨rfl, hb⟩; dsimp only; first | exact hK _ hb | exact hK _ (Ext.refl _)) | (go_at_call 40; (with_reducible refine (hC2 _).mono ?_); rintro e w3 ⟨rfl, hb⟩; dsimp only; first | exact hK _ hb | exact hK _ (Ext.refl _)))); simp only [List.getElem_toArray, List.getElem_cons_succ, List.getElem_cons_zero, Act.put, List.setIfInBounds_toArray, List.set_cons_succ, List.set_cons_zero]) | (refine treeC_skip ⟨_, H, by repeat first | exact .here | apply Suf.there⟩ rfl rfl ?_; simp only [List.getElem_toArray, List.getElem_cons_succ, List.getElem_cons_zero, Act.put, List.setIfInBounds_toArray, List.set_cons_succ, List.set_cons_zero])) | (guard_target =~ wpTreeC _ _ _ (Tr.both _ _) _ _ _; refine treeC_both ?_ ?_) | (guard_target =~ wpTreeC _ _ _ (Tr.e _ _) _ _ _; first | (refine treeC_one H rfl rfl (fun w3 H2 K hK => ?_); clear H; (try clear w2); (revert w3; intro w2 H); simp only [List.getElem_toArray, List.getElem_cons_succ, List.getElem_cons_zero]; first | ((first | fail); simp only [Act.put, List.setIfInBounds_toArray, List.set_cons_succ, List.set_cons_zero, cells_iV, iL_length, setL_i, setL_ii, agg_iL, cells_rV, rL_length, setL_r, setL_rr, agg_rL]) | (go_big_op; (first | fail))) | (refine treeC_one_skip (fun w3 hx => ⟨_, H.ext hx, by repeat first | exact .here | apply Suf.there⟩) rfl rfl (fun w3 hx => ?_); replace H := H.ext hx; clear hx; (try clear w2); revert w3; intro w2 H; simp only [List.getElem_toArray, List.getElem_cons_succ, List.getElem_cons_zero, Act.put, List.setIfInBounds_toArray, List.set_cons_succ, List.set_cons_zero])) | (guard_target =~ wpTreeC _ _ _ Tr.nil _ _ _; refine treeC_nil H (fun w3 H2 => ?_); clear H; (try clear w2); revert w3; intro w2 H)))
      go_ret
      exact ⟨rfl, H.below⟩
    | true =>
      rw [h2] at hR2 hC
      have hC2 := fun w => ref4Cmp_any n d m e hn hd hm he w
      simp only [Bool.and_self, if_true] at hC
      generalize cmpZ (n * e) (m * d) = z at *
      clear h1 h2 hd0 rf
      go_enter Try.func8, Try.ntmps8
      have tk0 : True := trivial
      have tk1 : True := trivial
      have tk2 : True := trivial
      have tk3 : True := trivial
      have tk4 : True := trivial
      have tk5 : True := trivial
      have tk6 : True := trivial
      have tk7 : True := trivial
      go_wp2_with (first
        | (guard_target =~ Code.wp _ (Code.region 4 _ true) _ _ _; refine region_treeC0 4 (G := True) (.q 0 (.q 1 (.q 2 (.q 3 (.q 4 (.q 5 (.q 6 (.q 7 (.q 8 (.q 9 (.q 10 (.q 11 (.q 12 (.q 13 (.q 14 (.q 15 (.q 16 (.q 17 (.q 18 (.q 19 (.q 20 (.q 21 (.q 22 (.q 23 .nil)))))))))))))))))))))))) (by kernel_rfl) (by intro c a d v w h; cases d <;> exact h) (by kernel_rfl) H ⟨trivial⟩ (fun _ w3 H2 => ?_); (clear H; (try clear w2); revert w3; intro w2 H))
        | (guard_target =~ Code.wp _ (Code.region 8 _ true) _ _ _; refine region_treeC0 8 (G := True) (.q 0 (.q 1 (.q 2 (.q 3 (.q 4 .nil))))) (by kernel_rfl) (by intro c a d v w h; cases d <;> exact h) (by kernel_rfl) H ⟨trivial⟩ (fun _ w3 H2 => ?_); (clear H; (try clear w2); revert w3; intro w2 H))
        | (go_at_call 17; (with_reducible refine (awake4_any _).mono ?_); rintro e w3 ⟨rfl, hb⟩; replace H := H.ext hb; clear hb; dsimp only; (skip))
        | (go_at_call 18; (with_reducible refine (plain4_any _ _ _).mono ?_); rintro e w3 ⟨rfl, hb⟩; replace H := H.ext hb; clear hb; dsimp only; (skip))
        | (go_at_call 32; (with_reducible refine (hR1 _).mono ?_); rintro e w3 ⟨rfl, hb⟩; replace H := H.ext hb; clear hb; dsimp only; (skip))
        | (go_at_call 32; (with_reducible refine (hR2 _).mono ?_); rintro e w3 ⟨rfl, hb⟩; replace H := H.ext hb; clear hb; dsimp only; (skip))
        | (go_at_call 36; (with_reducible refine (hC _).mono ?_); rintro e w3 ⟨rfl, hb⟩; replace H := H.ext hb; clear hb; dsimp only; (skip))
        | (guard_target =~ wpList _ _ _ (_ :: _) _ _; (first | (guard_target =~ wpList _ _ _ (Oper.mk _ (.load _ _) _ _ _ _ :: _) _ _; refine BigFrame.wpList_want rfl (fun K hK => ?_); (refine o_loadNC (row := ?_) rfl rfl H ?_ ?_ ?_ (hK _ _ ?_); rotate_left 1; (repeat first | exact .head _ | apply List.Mem.tail); (focus (intro _; simp [cells_iV, iL_length, setL_i, setL_ii, agg_iL, cells_rV, rL_length, setL_r, setL_rr, agg_rL]; done)); (focus (intro _; simp [cells_iV, iL_length, setL_i, setL_ii, agg_iL, cells_rV, rL_length, setL_r, setL_rr, agg_rL]; done))); clear hK K) | (guard_target =~ wpList _ _ _ (Oper.mk _ (.store _ _ _) _ _ _ _ :: _) _ _; refine BigFrame.wpList_want rfl (fun K hK => ?_); refine o_store (l' := ?_) (row := ?_) rfl rfl H rfl ?_ ?_ ?_ ?_ (fun w3 H2 => hK _ _ ?_); rotate_left 2; (exact r0); (focus (intro _; (simp [Act.eval, List.getD, cells_iV, iL_length, setL_i, setL_ii, agg_iL, cells_rV, rL_length, setL_r, setL_rr, agg_rL]; done))); (focus (simp [Act.eval, List.getD, cells_iV, iL_length, setL_i, setL_ii, agg_iL, cells_rV, rL_length, setL_r, setL_rr, agg_rL]; done)); (exact rfl); clear hK K; clear H; (try clear w2); revert w3; intro w2 H; (try simp [Act.eval, List.getD, cells_iV, iL_length, setL_i, setL_ii, agg_iL, cells_rV, rL_length, setL_r, setL_rr, agg_rL] at H); (try simp [Value.cells, setL, cells_iV, iL_length, setL_i, setL_ii, agg_iL, cells_rV, rL_length, setL_r, setL_rr, agg_rL] at H)) | ((first | (guard_target =~ wpList _ _ _ (Oper.mk _ (.alloc _) _ _ _ _ :: _) _ _; refine BigFrame.wpList_want rfl (fun K hK => ?_); refine o_alloc (z := ?_) rfl ?_ H rfl (fun w3 b2 he H2 => hK _ _ ?_); rotate_left 1; (focus (intro _; simp; with_reducible exact rfl))) | (guard_target =~ wpList _ _ _ (Oper.mk _ (.box _ _) _ _ _ _ :: _) _ _; refine BigFrame.wpList_want rfl (fun K hK => ?_); refine o_box rfl H rfl (fun w3 b2 he H2 => hK _ _ ?_))); clear hK K he; clear H; (try clear w2); revert w3; intro w2 H; (try simp [Act.eval, List.getD, cells_iV, iL_length, setL_i, setL_ii, agg_iL, cells_rV, rL_length, setL_r, setL_rr, agg_rL] at H); (try simp [Value.cells, setL, cells_iV, iL_length, setL_i, setL_ii, agg_iL, cells_rV, rL_length, setL_r, setL_rr, agg_rL] at H); (first | (clear tk0; rename Nat => c1) | (clear tk1; rename Nat => c2) | (clear tk2; rename Nat => c3)))); simp only [Act.put, List.setIfInBounds_toArray, List.set_cons_succ, List.set_cons_zero, cells_iV, iL_length, setL_i, setL_ii, agg_iL, cells_rV, rL_length, setL_r, setL_rr, agg_rL])
        | (guard_target =~ wpTreeC _ _ _ _ _ _ _; first | (guard_target =~ wpTreeC _ _ _ (Tr.e _ Tr.nil) _ _ _; refine treeC_last (by kernel_rfl) H rfl rfl (fun w3 H2 K hK => ?_); clear H; (try clear w2); (revert w3; intro w2 H); simp only [List.getElem_toArray, List.getElem_cons_succ, List.getElem_cons_zero]; (first | fail); simp only [Act.put, List.setIfInBounds_toArray, List.set_cons_succ, List.set_cons_zero, cells_iV, iL_length, setL_i, setL_ii, agg_iL, cells_rV, rL_length, setL_r, setL_rr, agg_rL]) | (guard_target =~ wpTreeC _ _ _ (Tr.q _ _) _ _ _; first | (refine treeC_quiet ⟨_, H, by repeat first | exact .here | apply Suf.there⟩ rfl rfl rfl (fun K hK => ?_); simp only [List.getElem_toArray, List.getElem_cons_succ, List.getElem_cons_zero]; first | (guard_target =~ Oper.quiet _ (Oper.mk _ (.load _ _) _ _ _ _) _ _ _; (refine q_loadNC (row := ?_) rfl rfl ?_ ?_ ?_ (hK _ ?_); rotate_left 1; (repeat first | exact .head _ | apply List.Mem.tail); (focus (intro _; simp [cells_iV, iL_length, setL_i, setL_ii, agg_iL, cells_rV, rL_length, setL_r, setL_rr, agg_rL]; done)); (focus (intro _; simp [cells_iV, iL_length, setL_i, setL_ii, agg_iL, cells_rV, rL_length, setL_r, setL_rr, agg_rL]; done))); clear hK K; simp only [Act.put, List.setIfInBounds_toArray, List.set_cons_succ, List.set_cons_zero, cells_iV, iL_length, setL_i, setL_ii, agg_iL, cells_rV, rL_length, setL_r, setL_rr, agg_rL]) | (go_big_quiet_op; (try refine ⟨_, fun _ _ => rfl, ?_⟩); refine hK _ ?_; clear hK K)) | (refine treeC_call (v := ?_) ⟨_, H, by repeat first | exact .here | apply Suf.there⟩ rfl rfl (fun w3 H K hK => ?_) ?_; rotate_left 1; (focus (simp only [List.getElem_toArray, List.getElem_cons_succ, List.getElem_cons_zero]; go_big_op; first | (go_at_call 17; (with_reducible refine (awake4_any _).mono ?_); rintro e w3 ⟨rfl, hb⟩; dsimp only; first | exact hK _ hb | exact hK _ (Ext.refl _)) | (go_at_call 18; (with_reducible refine (plain4_any _ _ _).mono ?_); rintro e w3 ⟨rfl, hb⟩; dsimp only; first | exact hK _ hb | exact hK _ (Ext.refl _)) | (go_at_call 32; (with_reducible refine (hR1 _).mono ?_); rintro e w3 ⟨rfl, hb⟩; dsimp only; first | exact hK _ hb | exact hK _ (Ext.refl _)) | (go_at_call 32; (with_reducible refine (hR2 _).mono ?_); rintro e w3 ⟨rfl, hb⟩; dsimp only; first | exact hK _ hb | exact hK _ (Ext.refl _)) | (go_at_call 19; (with_reducible refine (hr1 _).mono ?_); rintro e w3 ⟨rfl, hb⟩; dsimp only; first | exact hK _ hb | exact hK _ (Ext.refl _)) | (go_at_call 33; (with_reducible refine (hS _).mono ?_); rintro e w3 ⟨rfl, hb⟩; dsimp only; first | exact hK _ hb | exact hK _ (Ext.refl _)) | (go_at_call 34; (with_reducible refine (hF _).mono ?_); rintro e w3 ⟨rfl, hb⟩; dsimp only; first | exact hK _ hb | exact hK _ (Ext.refl _)) | (go_at_call 35; (with_reducible refine (hT _).mono ?_); rintro e w3 ⟨rfl, hb⟩; dsimp only; first | exact hK _ hb | exact hK _ (Ext.refl _)) | (go_at_call 36; (with_reducible refine (hC _).mono ?_); rintro e w3 ⟨rfl, hb⟩; dsimp only; first | exact hK _ hb | exact hK _ (Ext.refl _)) | (go_at_call 37; (with_reducible refine (hS2 _).mono ?_); rintro e w3 ⟨rfl, hb⟩; dsimp only; first | exact hK _ hb | exact hK _ (Ext.refl _)) | (go_at_call 38; (with_reducible refine (hF2 _).mono ?_); rintro e w3 ⟨rfl, hb⟩; dsimp only; first | exact hK _ hb | exact hK _ (Ext.refl _)) | (go_at_call 39; (with_reducible refine (hT2 _).mono ?_); rintro e w3 ⟨rfl, hb⟩; dsimp only; first | exact hK _ hb | exact hK _ (Ext.refl _)) | (go_at_call 40; (with_reducible refine (hC2 _).mono ?_); rintro e w3 ⟨rfl, hb⟩; dsimp only; first | exact hK _ hb | exact hK _ (Ext.refl _)))); simp only [List.getElem_toArray, List.getElem_cons_succ, List.getElem_cons_zero, Act.put, List.setIfInBounds_toArray, List.set_cons_succ, List.set_cons_zero]) | (refine treeC_skip ⟨_, H, by repeat first | exact .here | apply Suf.there⟩ rfl rfl ?_; simp only [List.getElem_toArray, List.getElem_cons_succ, List.getElem_cons_zero, Act.put, List.setIfInBounds_toArray, List.set_cons_succ, List.set_cons_zero])) | (guard_target =~ wpTreeC _ _ _ (Tr.both _ _) _ _ _; refine treeC_both ?_ ?_) | (guard_target =~ wpTreeC _ _ _ (Tr.e _ _) _ _ _; first | (refine treeC_one H rfl rfl (fun w3 H2 K hK => ?_); clear H; (try clear w2); (revert w3; intro w2 H); simp only [List.getElem_toArray, List.getElem_cons_succ, List.getElem_cons_zero]; first | ((first | fail); simp only [Act.put, List.setIfInBounds_toArray, List.set_cons_succ, List.set_cons_zero, cells_iV, iL_length, setL_i, setL_ii, agg_iL, cells_rV, rL_length, setL_r, setL_rr, agg_rL]) | (go_big_op; (first | fail))) | (refine treeC_one_skip (fun w3 hx => ⟨_, H.ext hx, by repeat first | exact .here | apply Suf.there⟩) rfl rfl (fun w3 hx => ?_); replace H := H.ext hx; clear hx; (try clear w2); revert w3; intro w2 H; simp only [List.getElem_toArray, List.getElem_cons_succ, List.getElem_cons_zero, Act.put, List.setIfInBounds_toArray, List.set_cons_succ, List.set_cons_zero])) | (guard_target =~ wpTreeC _ _ _ Tr.nil _ _ _; refine treeC_nil H (fun w3 H2 => ?_); clear H; (try clear w2); revert w3; intro w2 H)))
      go_ret
      exact ⟨rfl, H.below⟩
end Go.Proofs.Ytmmieilogpmocaa

/-
  An argument that is a struct of two arrays of four integers. Nothing of the program stands here.
-/
namespace Go.Proofs.Ytmmieilogpmocaa
set_option linter.unusedVariables false
open Go.RowKit Go.WideShapes Go.ChangeShapes
section
variable {H : Type} {enc : TypeId × Value → H} {P : Program} {w : World} {base : Nat} {spare : Nat → Bool} {held : Bool}
theorem trod_arr4 {t e : TypeId} {q : IntKind} {m : Nat} {cs : List Value} {y : DataW H × List MemPlace} (hu : P.underlying t = some (.array 4 e)) (he : P.underlying e = some (.int q)) (hc : P.cellsOf e = 1) (hC : P.cellsOf t = 4)
    (hf : DataW.trod enc P w base spare held m t cs = some y) :
    ∃ a b c x : Int, cs = [.int q a, .int q b, .int q c, .int q x] ∧ (Lit.int q a).wf = true ∧ (Lit.int q b).wf = true ∧ (Lit.int q c).wf = true ∧ (Lit.int q x).wf = true := by
  cases m with
  | zero => simp [DataW.trod] at hf
  | succ m =>
    rw [DataW.trod_step] at hf
    unfold DataW.trodStep at hf
    simp only [hu] at hf
    by_cases hl : cs.length = P.cellsOf t
    · rw [if_pos hl, hc] at hf
      rw [hC] at hl
      obtain ⟨c0, c1, c2, c3, rfl⟩ : ∃ c0 c1 c2 c3, cs = [c0, c1, c2, c3] := by
        match cs, hl with
        | [c0, c1, c2, c3], _ => exact ⟨c0, c1, c2, c3, rfl⟩
      simp only [Option.map_eq_some_iff] at hf
      obtain ⟨ys, hy, _⟩ := hf
      have hr : List.range 4 = [0, 1, 2, 3] := rfl
      rw [hr] at hy
      simp only [List.mapM_cons, bind, Option.bind_eq_some_iff] at hy
      obtain ⟨y0, h0, _, ⟨y1, h1, _, ⟨y2, h2, _, ⟨y3, h3, _⟩, _⟩, _⟩, _⟩ := hy
      obtain ⟨a, ea, _, wa⟩ := DataW.trod_int he h0
      obtain ⟨b, eb, _, wb⟩ := DataW.trod_int he h1
      obtain ⟨c, ec, _, wc⟩ := DataW.trod_int he h2
      obtain ⟨x, ex, _, wx⟩ := DataW.trod_int he h3
      simp at ea eb ec ex
      subst ea eb ec ex
      exact ⟨a, b, c, x, rfl, wa, wb, wc, wx⟩
    · rw [if_neg hl] at hf; cases hf
theorem open_rat {r : Reach} {b0 : Nat} {T t e : TypeId} {q : IntKind} {fs : Array Field} {v : Value} {d : DataW H} {p : List MemPlace} (hU : P.underlying T = some (.struct fs)) (hfs : fs.toList.map (fun f => (f.type, f.offset)) = [(t, 0), (t, 4)])
    (hu : P.underlying t = some (.array 4 e)) (he : P.underlying e = some (.int q)) (hc : P.cellsOf e = 1) (hC : P.cellsOf t = 4) (hCT : P.cellsOf T = 8)
    (hv : Value.okWide P w r b0 T v) (h : DataW.Trod enc P w base spare held T v d p) :
    ∃ a b c x a' b' c' x' : Int, v = .agg #[.int q a, .int q b, .int q c, .int q x, .int q a', .int q b', .int q c', .int q x'] ∧ (Lit.int q a).wf = true ∧ (Lit.int q b).wf = true ∧ (Lit.int q c).wf = true ∧ (Lit.int q x).wf = true ∧
      (Lit.int q a').wf = true ∧ (Lit.int q b').wf = true ∧ (Lit.int q c').wf = true ∧ (Lit.int q x').wf = true := by
  simp only [Value.okWide, hU] at hv
  obtain ⟨cs, rfl, hsz, _⟩ := hv
  rw [hCT] at hsz
  obtain ⟨f, g, hl, f1, f2, g1, g2⟩ : ∃ f g, fs.toList = [f, g] ∧ f.type = t ∧ f.offset = 0 ∧ g.type = t ∧ g.offset = 4 := by
    revert hfs
    generalize fs.toList = l
    intro hfs
    match l, hfs with
    | [], hf => simp at hf
    | [_], hf => simp at hf
    | _ :: _ :: _ :: _, hf => simp at hf
    | [f, g], hf =>
      simp at hf
      obtain ⟨⟨f1, f2⟩, g1, g2⟩ := hf
      exact ⟨f, g, rfl, f1, f2, g1, g2⟩
  obtain ⟨fuel, hf⟩ := h
  cases fuel with
  | zero => simp [DataW.trod] at hf
  | succ m =>
    rw [DataW.trod_step] at hf
    unfold DataW.trodStep at hf
    simp only [hU, Value.cells] at hf
    rw [if_pos (by rw [hCT]; simpa using hsz), hl] at hf
    simp only [Option.map_eq_some_iff] at hf
    obtain ⟨ys, hy, _⟩ := hf
    simp only [List.mapM_cons, bind, Option.bind_eq_some_iff, f1, f2, g1, g2, hC] at hy
    obtain ⟨y0, h0, _, ⟨y1, h1, _⟩, _⟩ := hy
    obtain ⟨a, b, c, x, ea, wa, wb, wc, wx⟩ := trod_arr4 hu he hc hC h0
    obtain ⟨a', b', c', x', ea', wa', wb', wc', wx'⟩ := trod_arr4 hu he hc hC h1
    obtain ⟨l⟩ := cs
    simp only [List.size_toArray] at hsz
    obtain ⟨c0, c1, c2, c3, c4, c5, c6, c7, rfl⟩ : ∃ c0 c1 c2 c3 c4 c5 c6 c7, l = [c0, c1, c2, c3, c4, c5, c6, c7] := by
      match l, hsz with
      | [c0, c1, c2, c3, c4, c5, c6, c7], _ => exact ⟨c0, c1, c2, c3, c4, c5, c6, c7, rfl⟩
    simp at ea ea'
    obtain ⟨rfl, rfl, rfl, rfl⟩ := ea
    obtain ⟨rfl, rfl, rfl, rfl⟩ := ea'
    exact ⟨a, b, c, x, a', b', c', x', rfl, wa, wb, wc, wx, wa', wb', wc', wx'⟩
end
end Go.Proofs.Ytmmieilogpmocaa

/-
  A fraction's words.
-/
namespace Go.Proofs.Ytmmieilogpmocaa
set_option linter.unusedVariables false

theorem iL_sv {a b c d : Int} (ha : Wd a) (hb : Wd b) (hc : Wd c) (hd : Wd d) : iL (sv a b c d) = [.int .u64 a, .int .u64 b, .int .u64 c, .int .u64 d] := by
  have h : Value.agg (iL (sv a b c d)).toArray = _ := iV_sv ha hb hc hd
  injection h with h
  exact congrArg Array.toList h
theorem rV_sv {a b c d a' b' c' d' : Int} (ha : Wd a) (hb : Wd b) (hc : Wd c) (hd : Wd d) (ha' : Wd a') (hb' : Wd b') (hc' : Wd c') (hd' : Wd d') :
    rV (sv a b c d) (sv a' b' c' d') = .agg #[.int .u64 a, .int .u64 b, .int .u64 c, .int .u64 d, .int .u64 a', .int .u64 b', .int .u64 c', .int .u64 d'] := by
  unfold rV rL
  rw [iL_sv ha hb hc hd, iL_sv ha' hb' hc' hd']
  rfl
end Go.Proofs.Ytmmieilogpmocaa

/-
  An argument that is an array of four integers. Nothing of the program stands here.
-/
namespace Go.Proofs.Ytmmieilogpmocaa
set_option linter.unusedVariables false
open Go.RowKit Go.WideShapes Go.ChangeShapes
section
variable {H : Type} {enc : TypeId × Value → H} {P : Program} {w : World} {base : Nat} {spare : Nat → Bool} {held : Bool}
theorem open_arr4 {r : Reach} {b0 : Nat} {t e : TypeId} {q : IntKind} {v : Value} {d : DataW H} {p : List MemPlace} (hu : P.underlying t = some (.array 4 e)) (he : P.underlying e = some (.int q)) (hc : P.cellsOf e = 1) (hC : P.cellsOf t = 4)
    (hv : Value.okWide P w r b0 t v) (h : DataW.Trod enc P w base spare held t v d p) :
    ∃ a b c x : Int, v = .agg #[.int q a, .int q b, .int q c, .int q x] ∧ (Lit.int q a).wf = true ∧ (Lit.int q b).wf = true ∧ (Lit.int q c).wf = true ∧ (Lit.int q x).wf = true := by
  simp only [Value.okWide, hu] at hv
  obtain ⟨cs, rfl, hsz, _⟩ := hv
  rw [hC] at hsz
  obtain ⟨c0, c1, c2, c3, rfl⟩ : ∃ c0 c1 c2 c3, cs = #[c0, c1, c2, c3] := by
    obtain ⟨l⟩ := cs
    match l, hsz with
    | [c0, c1, c2, c3], _ => exact ⟨c0, c1, c2, c3, rfl⟩
  obtain ⟨fuel, hf⟩ := h
  cases fuel with
  | zero => simp [DataW.trod] at hf
  | succ m =>
    rw [DataW.trod_step] at hf
    unfold DataW.trodStep at hf
    simp only [hu, Value.cells] at hf
    rw [if_pos (by rw [hC]; rfl), hc] at hf
    simp only [Option.map_eq_some_iff] at hf
    obtain ⟨ys, hy, _⟩ := hf
    have hr : List.range 4 = [0, 1, 2, 3] := rfl
    rw [hr] at hy
    simp only [List.mapM_cons, bind, Option.bind_eq_some_iff] at hy
    obtain ⟨y0, h0, _, ⟨y1, h1, _, ⟨y2, h2, _, ⟨y3, h3, _⟩, _⟩, _⟩, _⟩ := hy
    obtain ⟨a, ea, _, wa⟩ := DataW.trod_int he h0
    obtain ⟨b, eb, _, wb⟩ := DataW.trod_int he h1
    obtain ⟨c, ec, _, wc⟩ := DataW.trod_int he h2
    obtain ⟨x, ex, _, wx⟩ := DataW.trod_int he h3
    simp at ea eb ec ex
    subst ea eb ec ex
    exact ⟨a, b, c, x, rfl, wa, wb, wc, wx⟩
end
end Go.Proofs.Ytmmieilogpmocaa

/-
  The statement RatioAsks, proved: for every input the law answers true, and each argument reads behind the call as it did. No condition.
-/
namespace Go.Proofs.Ytmmieilogpmocaa
namespace ratioAsks
open Go.ChangeShapes Go.WideShapes Go.ChangeAt Go.RowKit
open Go.ChangeMaps (open_string)
set_option maxRecDepth 100000 in
theorem lifted (os : Os) (started : os.Started) (H : Type) (enc : TypeId × Value → H) :
    ReturnsInHanded {} Try.checked os 8 .any (Rows.ratioAsksSpec.pre6 enc Try.prog Try.f8 Rows.ratioAsksRow.domain false) (Rows.ratioAsksSpec.post enc Try.prog Try.f8 false true false false) := by
  refine returnsInHanded_of_change (C := Try.checked) Try.own0 started (by kernel_rfl) Try.func8
    (ChangeSpec.witness6 (enc := enc) (C := Try.checked) false ⟨#[], #[.agg #[.int .u64 0, .int .u64 0, .int .u64 0, .int .u64 0, .int .u64 0, .int .u64 0, .int .u64 0, .int .u64 0], .agg #[.int .u64 0, .int .u64 0, .int .u64 0, .int .u64 0, .int .u64 0, .int .u64 0, .int .u64 0, .int .u64 0]], []⟩ 8 (by kernel_rfl) (by kernel_rfl) (by kernel_rfl) (by kernel_rfl)) ?_
  intro W base args ds gs before hval0 hW _ _
  have hval : ∀ (j : Nat) t v, Try.f8.params[j]? = some t → args[j]? = some v → Value.okWide Try.prog W .any base t v := hval0
  refine law_calls Try.laidOut (by kernel_rfl) rfl rfl Try.underlying4 (fun ds h => by match ds, h with | [_, _], _ => rfl) hW ?_
  obtain ⟨p, q, hA0, _, _, _, _⟩ := hW
  have hA : DataW.TrodAll enc Try.prog W 0 (fun _ => true) true Try.f8.params.toList args.toList ds p := hA0
  rw [Try.params8] at hA hval
  obtain ⟨v0, vs0, d0, ds0, p0, q0, hargs, rfl, rfl, h0, r0⟩ := trodAll_cons hA
  obtain ⟨v1, vs1, d1, ds1, p1, q1, rfl, rfl, rfl, h1, r1⟩ := trodAll_cons r0
  obtain ⟨rfl, rfl, rfl⟩ := trodAll_nil r1
  obtain rfl : args = #[v0, v1] := by cases args; simp_all
  obtain ⟨aa0, ab0, ac0, ad0, ba0, bb0, bc0, bd0, rfl, waa0, wab0, wac0, wad0, wba0, wbb0, wbc0, wbd0⟩ := open_rat Try.underlying26 (by kernel_rfl) Try.underlying24 Try.underlying22 (by kernel_rfl) (by kernel_rfl) (by kernel_rfl) (hval 0 26 v0 rfl rfl) h0
  have uaa0 : Wd aa0 := ⟨(bounds_u64 waa0).1, (bounds_u64 waa0).2⟩
  have uab0 : Wd ab0 := ⟨(bounds_u64 wab0).1, (bounds_u64 wab0).2⟩
  have uac0 : Wd ac0 := ⟨(bounds_u64 wac0).1, (bounds_u64 wac0).2⟩
  have uad0 : Wd ad0 := ⟨(bounds_u64 wad0).1, (bounds_u64 wad0).2⟩
  have uba0 : Wd ba0 := ⟨(bounds_u64 wba0).1, (bounds_u64 wba0).2⟩
  have ubb0 : Wd bb0 := ⟨(bounds_u64 wbb0).1, (bounds_u64 wbb0).2⟩
  have ubc0 : Wd bc0 := ⟨(bounds_u64 wbc0).1, (bounds_u64 wbc0).2⟩
  have ubd0 : Wd bd0 := ⟨(bounds_u64 wbd0).1, (bounds_u64 wbd0).2⟩
  rw [← rV_sv uaa0 uab0 uac0 uad0 uba0 ubb0 ubc0 ubd0]
  obtain ⟨aa1, ab1, ac1, ad1, ba1, bb1, bc1, bd1, rfl, waa1, wab1, wac1, wad1, wba1, wbb1, wbc1, wbd1⟩ := open_rat Try.underlying26 (by kernel_rfl) Try.underlying24 Try.underlying22 (by kernel_rfl) (by kernel_rfl) (by kernel_rfl) (hval 1 26 v1 rfl rfl) h1
  have uaa1 : Wd aa1 := ⟨(bounds_u64 waa1).1, (bounds_u64 waa1).2⟩
  have uab1 : Wd ab1 := ⟨(bounds_u64 wab1).1, (bounds_u64 wab1).2⟩
  have uac1 : Wd ac1 := ⟨(bounds_u64 wac1).1, (bounds_u64 wac1).2⟩
  have uad1 : Wd ad1 := ⟨(bounds_u64 wad1).1, (bounds_u64 wad1).2⟩
  have uba1 : Wd ba1 := ⟨(bounds_u64 wba1).1, (bounds_u64 wba1).2⟩
  have ubb1 : Wd bb1 := ⟨(bounds_u64 wbb1).1, (bounds_u64 wbb1).2⟩
  have ubc1 : Wd bc1 := ⟨(bounds_u64 wbc1).1, (bounds_u64 wbc1).2⟩
  have ubd1 : Wd bd1 := ⟨(bounds_u64 wbd1).1, (bounds_u64 wbd1).2⟩
  rw [← rV_sv uaa1 uab1 uac1 uad1 uba1 ubb1 ubc1 ubd1]
  exact law_RatioAsks (sv aa0 ab0 ac0 ad0) (sv ba0 bb0 bc0 bd0) (sv aa1 ab1 ac1 ad1) (sv ba1 bb1 bc1 bd1) W (sv_range uaa0 uab0 uac0 uad0) (sv_range uba0 ubb0 ubc0 ubd0) (sv_range uaa1 uab1 uac1 uad1) (sv_range uba1 ubb1 ubc1 ubd1)
set_option maxRecDepth 100000 in
theorem closed : joinedFacts Try.pinned.checked.prog 8 Try.f8 Rows.ratioAsksSpec Rows.ratioAsksRow = true := by
  have key : ∀ P : Program, P = Try.pinned.checked.prog → joinedFacts P 8 Try.f8 Rows.ratioAsksSpec Rows.ratioAsksRow = true := by
    intro P hP
    unfold joinedFacts
    simp only [Bool.and_eq_true]
    repeat' apply And.intro
    all_goals first
      | (guard_target =~ Program.mayEnter _ = true; rw [hP]; exact may_enter)
      | (guard_target =~ (_ == Program.liftsFinal _) = true; rw [hP, lifts_final]; rfl)
      | (guard_target =~ (Program.make _ == _) = true; rw [hP, make_cut]; rfl)
      | (rw [hP]; as_aux_lemma => kernel_rfl)
      | (as_aux_lemma => kernel_rfl)
  exact key _ rfl
theorem over : Rows.ratioAsksRow.holds Try.pinned (OpenSpec.ofChange Rows.ratioAsksSpec) :=
  OpenClaim.holds_of_wide 8 Try.f8 rfl rfl rfl rfl rfl rfl rfl ⟨rfl, rfl, rfl, rfl, rfl⟩ rfl rfl rfl rfl rfl (by kernel_rfl) Try.func8 closed
    (of_decide_eq_true (by kernel_rfl)) (by unfold Func.isWrapper; first | (rw [if_pos (by decide +kernel)]; kernel_rfl) | (rw [if_neg (by decide +kernel)]; exact ⟨rfl, rfl⟩))
    (fun os started H enc _ => lifted os started H enc)
theorem proved : Rows.RatioAsksSaid :=
  over
end ratioAsks
end Go.Proofs.Ytmmieilogpmocaa
