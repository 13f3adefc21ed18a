/-
  The statements of layer 3: is a number the document's?
-/
import Derived.Test.YtdgpdafkngoegaaLaw03a
import Derived.Test.YtdgpdafkngoegaaRef03n
namespace Go.Proofs.Ytdgpdafkngoegaa
set_option linter.unusedVariables false
set_option linter.unusedSimpArgs false
open Go.RowKit

theorem eq_self (x : Int) (hx : R256 x) (w : World) : (binOp .eql 24 (iV x) (iV x)).run Try.prog w = .ok (.bool true) w := by
  rw [eq_iV x x hx hx]; simp
set_option maxRecDepth 100000 in
set_option maxHeartbeats 8000000 in
theorem is_any (F : Nat → Prop) (w : World) (hF : ∀ k, F k → k < w.heap.size) (A : Option Addr) (c : Nat) (l : List Nat) (z : Int) (ha : Sl F w A (dl l)) (g : CnI l z) (hl : l.length ≤ 1000) (hc : l.length ≤ c) (hm : c ≤ maxLen) :
    Calls Try.prog 35 #[iV (fitZ z), .int .i64 (errZ z), .agg #[.bool (decide (z < 0)), .slice A l.length c]] w fun e w' => e = .returned (.bool true) ∧ Below w.heap.size w w' := by
  obtain ⟨b1, o1, H, f1⟩ := (Own.start w).addSl (ha.ro (by rfl))
  clear ha
  have hW := fun (F : Nat → Prop) (w : World) hF A ha => refWords_any F w hF A c l z ha g hl hc hm
  have g1 := guard_iVV
  obtain ⟨s, hs⟩ : ∃ s, decide (z < 0) = s := ⟨_, rfl⟩
  rw [hs] at hW ⊢
  by_cases hz : R256 z
  · have e1 : fitZ z = z := by unfold fitZ; rw [if_pos hz]
    have e2 : errZ z = 0 := by unfold errZ; rw [if_pos hz]
    have e3 : decide (R256 z) = true := by simpa using hz
    have he := eq_self z hz
    rw [e1, e3] at hW
    rw [e1, e2]
    clear e1 e2 e3 hs g hz
    go_enter Try.func35, Try.ntmps35
    have tk0 : True := trivial
    have tk1 : True := trivial
    have tk2 : True := trivial
    go_wp2_with (first
      | (go_at_call 47; (with_reducible refine (hW (FW F _) _ (H.fw_lt rfl hF) _ (by exact H.giveRd m2 f1)).mono ?_); rintro e w3 ⟨rfl, hb⟩; replace H := H.ext hb; clear hb; dsimp only)
      | (guard_target =~ wpList _ _ _ (_ :: _) _ _; (first | (guard_target =~ wpList _ _ _ (Oper.mk _ (.load _ _) _ _ _ _ :: _) _ _; refine BigFrame.wpList_want rfl (fun K hK => ?_); (refine o_loadNC (row := ?_) rfl rfl H ?_ ?_ ?_ (hK _ _ ?_); rotate_left 1; (repeat first | exact .head _ | apply List.Mem.tail); (focus (intro _; simp [cells_iV, iL_length, setL_i, setL_ii, agg_iL]; done)); (focus (intro _; simp [cells_iV, iL_length, setL_i, setL_ii, agg_iL]; done))); clear hK K) | (guard_target =~ wpList _ _ _ (Oper.mk _ (.store _ _ _) _ _ _ _ :: _) _ _; refine BigFrame.wpList_want rfl (fun K hK => ?_); refine o_store (l' := ?_) (row := ?_) rfl rfl H rfl ?_ ?_ ?_ ?_ (fun w3 H2 => hK _ _ ?_); rotate_left 2; (exact r0); (focus (intro _; (simp [Act.eval, List.getD, cells_iV, iL_length, setL_i, setL_ii, agg_iL]; done))); (focus (simp [Act.eval, List.getD, cells_iV, iL_length, setL_i, setL_ii, agg_iL]; done)); (exact rfl); clear hK K; clear H; (try clear w2); revert w3; intro w2 H; (try simp [Act.eval, List.getD, cells_iV, iL_length, setL_i, setL_ii, agg_iL] at H); (try simp [Value.cells, setL, cells_iV, iL_length, setL_i, setL_ii, agg_iL] at H)) | ((first | (guard_target =~ wpList _ _ _ (Oper.mk _ (.alloc _) _ _ _ _ :: _) _ _; refine BigFrame.wpList_want rfl (fun K hK => ?_); refine o_alloc (z := ?_) rfl ?_ H rfl (fun w3 b2 he H2 => hK _ _ ?_); rotate_left 1; (focus (intro _; simp; with_reducible exact rfl))) | (guard_target =~ wpList _ _ _ (Oper.mk _ (.box _ _) _ _ _ _ :: _) _ _; refine BigFrame.wpList_want rfl (fun K hK => ?_); refine o_box rfl H rfl (fun w3 b2 he H2 => hK _ _ ?_))); clear hK K he; clear H; (try clear w2); revert w3; intro w2 H; (try simp [Act.eval, List.getD, cells_iV, iL_length, setL_i, setL_ii, agg_iL] at H); (try simp [Value.cells, setL, cells_iV, iL_length, setL_i, setL_ii, agg_iL] at H); (first | (clear tk0; rename Nat => d3) | (clear tk1; rename Nat => d5) | (clear tk2; rename Nat => d7)))); simp only [Act.put, List.setIfInBounds_toArray, List.set_cons_succ, List.set_cons_zero, cells_iV, iL_length, setL_i, setL_ii, agg_iL]))
    go_ret
    exact ⟨rfl, H.below⟩
  · have e1 : fitZ z = 0 := by unfold fitZ; rw [if_neg hz]
    have e2 : errZ z = 3 := by unfold errZ; rw [if_neg hz]
    have e3 : decide (R256 z) = false := by simpa using hz
    have he := eq_self 0 (by unfold R256; omega)
    rw [e1, e3] at hW
    rw [e1, e2]
    have g2 := guard_iV
    rw [iV_zero] at hW he ⊢
    clear e1 e2 e3 hs g hz
    go_enter Try.func35, Try.ntmps35
    have g3 := guard_agg
    have tk0 : True := trivial
    have tk1 : True := trivial
    have tk2 : True := trivial
    go_wp2_with (first
      | (go_at_call 47; (with_reducible refine (hW (FW F _) _ (H.fw_lt rfl hF) _ (by exact H.giveRd m2 f1)).mono ?_); rintro e w3 ⟨rfl, hb⟩; replace H := H.ext hb; clear hb; dsimp only)
      | (guard_target =~ wpList _ _ _ (_ :: _) _ _; (first | (guard_target =~ wpList _ _ _ (Oper.mk _ (.load _ _) _ _ _ _ :: _) _ _; refine BigFrame.wpList_want rfl (fun K hK => ?_); (refine o_loadNC (row := ?_) rfl rfl H ?_ ?_ ?_ (hK _ _ ?_); rotate_left 1; (repeat first | exact .head _ | apply List.Mem.tail); (focus (intro _; simp [cells_iV, iL_length, setL_i, setL_ii, agg_iL]; done)); (focus (intro _; simp [cells_iV, iL_length, setL_i, setL_ii, agg_iL]; done))); clear hK K) | (guard_target =~ wpList _ _ _ (Oper.mk _ (.store _ _ _) _ _ _ _ :: _) _ _; refine BigFrame.wpList_want rfl (fun K hK => ?_); refine o_store (l' := ?_) (row := ?_) rfl rfl H rfl ?_ ?_ ?_ ?_ (fun w3 H2 => hK _ _ ?_); rotate_left 2; (exact r0); (focus (intro _; (simp [Act.eval, Value.cells, List.getD, cells_iV, iL_length, setL_i, setL_ii, agg_iL]; done))); (focus (simp [Act.eval, Value.cells, List.getD, cells_iV, iL_length, setL_i, setL_ii, agg_iL]; done)); (exact rfl); clear hK K; clear H; (try clear w2); revert w3; intro w2 H; (try simp [Act.eval, List.getD, cells_iV, iL_length, setL_i, setL_ii, agg_iL] at H); (try simp [Value.cells, setL, cells_iV, iL_length, setL_i, setL_ii, agg_iL] at H)) | ((first | (guard_target =~ wpList _ _ _ (Oper.mk _ (.alloc _) _ _ _ _ :: _) _ _; refine BigFrame.wpList_want rfl (fun K hK => ?_); refine o_alloc (z := ?_) rfl ?_ H rfl (fun w3 b2 he H2 => hK _ _ ?_); rotate_left 1; (focus (intro _; simp; with_reducible exact rfl))) | (guard_target =~ wpList _ _ _ (Oper.mk _ (.box _ _) _ _ _ _ :: _) _ _; refine BigFrame.wpList_want rfl (fun K hK => ?_); refine o_box rfl H rfl (fun w3 b2 he H2 => hK _ _ ?_))); clear hK K he; clear H; (try clear w2); revert w3; intro w2 H; (try simp [Act.eval, List.getD, cells_iV, iL_length, setL_i, setL_ii, agg_iL] at H); (try simp [Value.cells, setL, cells_iV, iL_length, setL_i, setL_ii, agg_iL] at H); (first | (clear tk0; rename Nat => d3) | (clear tk1; rename Nat => d5) | (clear tk2; rename Nat => d7)))); simp only [Act.put, List.setIfInBounds_toArray, List.set_cons_succ, List.set_cons_zero, cells_iV, iL_length, setL_i, setL_ii, agg_iL]))
    go_ret
    exact ⟨rfl, H.below⟩
end Go.Proofs.Ytdgpdafkngoegaa
