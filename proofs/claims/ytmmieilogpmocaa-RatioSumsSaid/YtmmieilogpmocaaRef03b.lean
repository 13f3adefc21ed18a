/-
  The walks of the document's layer 3: noughts on top fall.
-/
import Derived.Test.YtmmieilogpmocaaRef03a
namespace Go.Proofs.Ytmmieilogpmocaa
set_option linter.unusedVariables false
set_option linter.unusedSimpArgs false
open Go.RowKit

/-- The number z with the sign of its digits. -/
def sgn (b : Bool) (n : Nat) : Int := if b then -(n : Int) else n
theorem sgn_neg {s : Bool} {n : Nat} (h : 0 < n) : decide (sgn s n < 0) = s := by
  cases s <;> simp [sgn] <;> omega
theorem sgn_abs (s : Bool) (n : Nat) : (sgn s n).natAbs = n := by cases s <;> simp [sgn]
/-- What a function answers whose answer is the number z. -/
def RetN (F : Nat → Prop) (w : World) (z : Int) (e : Ending) (w' : World) : Prop :=
  ∃ A c l, e = .returned (.agg #[.bool (decide (z < 0)), .slice A l.length c]) ∧ Below w.heap.size w w' ∧ Sl F w' A (dl l) ∧ CnI l z ∧ l.length ≤ c ∧ c ≤ maxLen
def TrimRel (w : World) (A : Option Addr) (b1 o1 b2 b3 c : Nat) (l : List Nat) (s : Bool) (k : Nat) (wr : World) : Prop :=
  k ≤ l.length ∧ val (l.take k) = val l ∧ Own w.heap.size w wr [.cells b3 [.bool false, .slice none 0 0], .cells b2 [.bool s, .slice A k c], .rd A b1 o1 (dl l)]
set_option maxRecDepth 100000 in
set_option maxHeartbeats 2000000 in
theorem trim_any (F : Nat → Prop) (w : World) (hF : ∀ k, F k → k < w.heap.size) (s : Bool) (A : Option Addr) (c : Nat) (l : List Nat) (ha : Sl F w A (dl l)) (g : Dg l) (hl : l.length ≤ 1000) (hc : l.length ≤ c) (hm : c ≤ maxLen) :
    Calls Try.prog 97 #[.agg #[.bool s, .slice A l.length c]] w (RetN F w (sgn s (val l))) := by
  unfold maxLen at hm
  obtain ⟨b1, o1, H, f1⟩ := (Own.start w).addSl (ha.ro (by rfl))
  clear ha
  go_enter Try.func97, Try.ntmps97
  have tk0 : True := trivial
  have tk1 : True := trivial
  go_wp2_with (guard_target =~ wpList _ _ _ (_ :: _) _ _; ((first | (guard_target =~ wpList _ _ _ (Oper.mk _ (.alloc _) _ _ _ _ :: _) _ _; refine BigFrame.wpList_want rfl (fun K hK => ?_); refine o_alloc (z := ?_) rfl ?_ H rfl (fun w3 b2 he H2 => hK _ _ ?_); rotate_left 1; (focus (intro _; simp; with_reducible exact rfl))) | (guard_target =~ wpList _ _ _ (Oper.mk _ (.box _ _) _ _ _ _ :: _) _ _; refine BigFrame.wpList_want rfl (fun K hK => ?_); refine o_box rfl H rfl (fun w3 b2 he H2 => hK _ _ ?_))); clear hK K he; clear H; (try clear w2); revert w3; intro w2 H; simp [Act.eval, Value.cells, setL, List.getD] at H; (first | (clear tk0; rename Nat => b2) | (clear tk1; rename Nat => b3))); simp only [Act.put, List.setIfInBounds_toArray, List.set_cons_succ, List.set_cons_zero])
  go_loopg [] l.length (TrimRel w A b1 o1 b2 b3 c l s)
  case atStart => exact ⟨Nat.le_refl _, by rw [List.take_length], H⟩
  case round =>
    clear H
    obtain ⟨hk, hv, H⟩ := hrel
    have HV := Lib.hid hv
    clear hv
    by_cases h0 : 0 < gk
    · obtain ⟨j, rfl⟩ : ∃ j, gk = j + 1 := ⟨gk - 1, by omega⟩
      have e1 : ((j + 1 : Nat) : Int) - 1 = (j : Int) := by omega
      obtain rfl := H.rdAddr m2 (by rw [dl_length]; omega)
      obtain ⟨x, hx, bx, tx⟩ := dig_at (show j < l.length by omega) g
      replace tx := tx (some ⟨b1, o1, none⟩) b1 o1
      by_cases hx0 : x = 0
      · subst hx0
        go_wp2_with (guard_target =~ wpList _ _ _ (_ :: _) _ _; (first | (guard_target =~ wpList _ _ _ (Oper.mk _ (.load _ _) _ _ _ _ :: _) _ _; refine BigFrame.wpList_want rfl (fun K hK => ?_); (first | (refine o_load (v := ?_) (r := ?_) rfl rfl H ?_ ?_ ?_ (hK _ _ ?_); rotate_left 2; (with_reducible assumption); (repeat first | exact .head _ | apply List.Mem.tail); (focus (intro _; simp; done))) | (refine o_loadC (v := ?_) (row := ?_) rfl rfl H ?_ ?_ ?_ (hK _ _ ?_); rotate_left 2; (repeat first | exact .head _ | apply List.Mem.tail); (exact rfl); (focus (intro _; simp; done)))); clear hK K) | (guard_target =~ wpList _ _ _ (Oper.mk _ (.store _ _ _) _ _ _ _ :: _) _ _; refine BigFrame.wpList_want rfl (fun K hK => ?_); refine o_store (l' := ?_) (row := ?_) rfl rfl H rfl ?_ ?_ ?_ ?_ (fun w3 H2 => hK _ _ ?_); rotate_left 2; (exact r1); (focus (intro _; simp [Act.eval, Value.cells]; done)); (focus (simp [Act.eval, Value.cells]; done)); (exact rfl); clear hK K; clear H; (try clear w2); revert w3; intro w2 H; simp [Act.eval, Value.cells, setL, List.getD] at H)); simp only [Act.put, List.setIfInBounds_toArray, List.set_cons_succ, List.set_cons_zero])
        go_roundg j
        case rel =>
          refine ⟨by omega, ?_, H⟩
          rw [← val_drop_top hx.out]
          exact HV.out
        case measure => omega
      · have hx1 : ((x : Int) == 0) = false := by simpa using hx0
        go_wp2_with (guard_target =~ wpList _ _ _ (_ :: _) _ _; (first | (guard_target =~ wpList _ _ _ (Oper.mk _ (.load _ _) _ _ _ _ :: _) _ _; refine BigFrame.wpList_want rfl (fun K hK => ?_); (first | (refine o_load (v := ?_) (r := ?_) rfl rfl H ?_ ?_ ?_ (hK _ _ ?_); rotate_left 2; (with_reducible assumption); (repeat first | exact .head _ | apply List.Mem.tail); (focus (intro _; simp; done))) | (refine o_loadC (v := ?_) (row := ?_) rfl rfl H ?_ ?_ ?_ (hK _ _ ?_); rotate_left 2; (repeat first | exact .head _ | apply List.Mem.tail); (exact rfl); (focus (intro _; simp; done))) | (refine o_loadNC (row := ?_) rfl rfl H ?_ ?_ ?_ (hK _ _ ?_); rotate_left 1; (repeat first | exact .head _ | apply List.Mem.tail); (focus (intro _; simp; done)); (focus (intro _; simp; done)))); clear hK K) | (guard_target =~ wpList _ _ _ (Oper.mk _ (.store _ _ _) _ _ _ _ :: _) _ _; refine BigFrame.wpList_want rfl (fun K hK => ?_); refine o_store (l' := ?_) (row := ?_) rfl rfl H rfl ?_ ?_ ?_ ?_ (fun w3 H2 => hK _ _ ?_); rotate_left 2; (exact r0); (focus (intro _; simp [Act.eval, Value.cells]; done)); (focus (simp [Act.eval, Value.cells]; done)); (exact rfl); clear hK K; clear H; (try clear w2); revert w3; intro w2 H; simp [Act.eval, Value.cells, setL, List.getD] at H)); simp only [Act.put, List.setIfInBounds_toArray, List.set_cons_succ, List.set_cons_zero])
        have hr := H.loadVarN (P := Try.prog) (ty := 71) m0 (by simp) (by simp)
        have hs := ((H.giveRd m2 f1).take (j + 1)).fw
        rw [← dl_take] at hs
        have ht : ∀ hn : l.take (j + 1) ≠ [], (l.take (j + 1)).getLast hn ≠ 0 := top_take (by omega) (by rw [hx.out]; exact hx0)
        have hlen : (l.take (j + 1)).length = j + 1 := by rw [List.length_take]; omega
        have hpos : 0 < val l := by
          rw [← HV.out]
          exact Nat.lt_of_lt_of_le (Nat.pow_pos (by omega)) (val_pos (by intro h; rw [h] at hlen; simp at hlen) (ht _))
        refine bodyPost_ret (v := .agg #[.bool s, .slice (some ⟨b1, o1, none⟩) (j + 1) c]) (by simp [results, Try.results97, asAddr, hr]) rfl ⟨some ⟨b1, o1, none⟩, c, l.take (j + 1), ?_, H.below, hs, ⟨g.take _, ht, ?_⟩, by omega, by unfold maxLen; omega⟩
        · rw [sgn_neg hpos, hlen]
        · rw [sgn_abs]; exact HV.out
    · obtain rfl : gk = 0 := by omega
      go_wp2_with (first
        | go_big_skip
        | (guard_target =~ wpList _ _ _ (_ :: _) _ _; (first | (guard_target =~ wpList _ _ _ (Oper.mk _ (.load _ _) _ _ _ _ :: _) _ _; refine BigFrame.wpList_want rfl (fun K hK => ?_); (first | (refine o_loadC (v := ?_) (row := ?_) rfl rfl H ?_ ?_ ?_ (hK _ _ ?_); rotate_left 2; (repeat first | exact .head _ | apply List.Mem.tail); (exact rfl); (focus (intro _; simp; done))) | (refine o_loadNC (row := ?_) rfl rfl H ?_ ?_ ?_ (hK _ _ ?_); rotate_left 1; (repeat first | exact .head _ | apply List.Mem.tail); (focus (intro _; simp; done)); (focus (intro _; simp; done)))); clear hK K) | (guard_target =~ wpList _ _ _ (Oper.mk _ (.store _ _ _) _ _ _ _ :: _) _ _; refine BigFrame.wpList_want rfl (fun K hK => ?_); refine o_store (l' := ?_) (row := ?_) rfl rfl H rfl ?_ ?_ ?_ ?_ (fun w3 H2 => hK _ _ ?_); rotate_left 2; (first | exact r0 | exact r1); (focus (intro _; simp [Act.eval, Value.cells]; done)); (focus (simp [Act.eval, Value.cells]; done)); (exact rfl); clear hK K; clear H; (try clear w2); revert w3; intro w2 H; simp [Act.eval, Value.cells, setL, List.getD] at H)); simp only [Act.put, List.setIfInBounds_toArray, List.set_cons_succ, List.set_cons_zero]))
      have hr := H.loadVarN (P := Try.prog) (ty := 71) m0 (by simp) (by simp)
      have hv := HV.out
      simp only [List.take_zero, val] at hv
      refine bodyPost_ret (v := .agg #[.bool false, .slice A 0 c]) (by simp [results, Try.results97, asAddr, hr]) rfl ⟨A, c, [], ?_, H.below, Sl.nil_ _ _ _, ?_, Nat.zero_le _, by unfold maxLen; omega⟩
      · rw [← hv]; cases s <;> rfl
      · rw [← hv]; cases s <;> exact CnI.zero
end Go.Proofs.Ytmmieilogpmocaa
