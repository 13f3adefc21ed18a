/-
  The walks of the document's layer 3: the greatest number that divides both.
-/
import Derived.Test.YtdgpdafkngoegaaRef03i
namespace Go.Proofs.Ytdgpdafkngoegaa
set_option linter.unusedVariables false
set_option linter.unusedSimpArgs false
open Go.RowKit

def RetNn2 (F : Nat → Prop) (w : World) (m n : Nat) (e : Ending) (w' : World) : Prop :=
  ∃ A c l A' c' l', e = .returned (.tuple #[.agg #[.bool false, .slice A l.length c], .agg #[.bool false, .slice A' l'.length c']]) ∧ Below w.heap.size w w' ∧ Sl F w' A (dl l) ∧ CnI l (m : Int) ∧ l.length ≤ c ∧ c ≤ maxLen ∧
    Sl F w' A' (dl l') ∧ CnI l' (n : Int) ∧ l'.length ≤ c' ∧ c' ≤ maxLen
theorem divNn_any (F : Nat → Prop) (w : World) (hF : ∀ k, F k → k < w.heap.size) (A1 A2 : Option Addr) (c1 c2 : Nat) (a b : List Nat) (m n : Nat) (ga : CnI a (m : Int)) (gb : CnI b (n : Int)) (hn : 0 < n) (ha : Sl F w A1 (dl a)) (hb : Sl F w A2 (dl b)) (la : a.length ≤ 450) (lb : b.length ≤ 450) (ma : a.length ≤ c1) (mb : b.length ≤ c2) (ma2 : c1 ≤ maxLen) (mb2 : c2 ≤ maxLen) :
    Calls Try.prog 33 #[.agg #[.bool false, .slice A1 a.length c1], .agg #[.bool false, .slice A2 b.length c2]] w (RetNn2 F w (m / n) (m % n)) := by
  have h := refDiv_any F w hF A1 A2 c1 c2 a b m n ha hb ga gb la lb ma mb ma2 mb2 (by omega)
  rw [natneg, natneg] at h
  refine h.mono ?_
  rintro e w' ⟨A, c, l, A', c', l', he, hb, h1, h2, h3, h4, h5, h6, h7, h8⟩
  rw [Int.tdiv_eq_ediv_of_nonneg (by omega), ← Int.natCast_ediv] at he h2
  rw [Int.tmod_eq_emod_of_nonneg (by omega), ← Int.natCast_emod] at he h6
  rw [natneg, natneg] at he
  exact ⟨A, c, l, A', c', l', he, hb, h1, h2, h3, h4, h5, h6, h7, h8⟩
def RGcdRel (F : Nat → Prop) (w : World) (g d2 d3 d4 : Nat) (k : Nat) (wr : World) : Prop :=
  ∃ (p : Nat) (A A' : Option Addr) (c c' b o b' o' : Nat) (l l' : List Nat), CnI l (p : Int) ∧ CnI l' (k : Int) ∧ Nat.gcd p k = g ∧ l.length ≤ 450 ∧ l'.length ≤ 450 ∧ l.length ≤ c ∧ c ≤ maxLen ∧ l'.length ≤ c' ∧ c' ≤ maxLen ∧ (0 < (dl l).length → ¬ F b) ∧ (0 < (dl l').length → ¬ F b') ∧
    Own w.heap.size w wr [.rd A' b' o' (dl l'), .rd A b o (dl l), .cells d4 [.bool false, .slice none 0 0], .cells d3 [.bool false, .slice A' l'.length c'], .cells d2 [.bool false, .slice A l.length c]]
set_option maxRecDepth 100000 in
set_option maxHeartbeats 4000000 in
theorem refGcd_any (F : Nat → Prop) (w : World) (hF : ∀ k, F k → k < w.heap.size) (A1 A2 : Option Addr) (c1 c2 : Nat) (a b : List Nat) (x y : Int) (s t : Bool) (ha : Sl F w A1 (dl a)) (hb : Sl F w A2 (dl b)) (ga : CnI a x) (gb : CnI b y) (la : a.length ≤ 450) (lb : b.length ≤ 450)
    (ma : a.length ≤ c1) (mb : b.length ≤ c2) (ma2 : c1 ≤ maxLen) (mb2 : c2 ≤ maxLen) :
    Calls Try.prog 37 #[.agg #[.bool s, .slice A1 a.length c1], .agg #[.bool t, .slice A2 b.length c2]] w (RetNn F w (Nat.gcd x.natAbs y.natAbs)) := by
  obtain ⟨b2, o2, H2, f2⟩ := (Own.start w).addSl (hb.ro (by rfl))
  obtain ⟨b1, o1, H, f1⟩ := H2.addSl (ha.ro (by rfl))
  clear ha hb H2
  go_enter Try.func37, Try.ntmps37
  have tk0 : True := trivial
  have tk1 : True := trivial
  have tk2 : True := trivial
  go_wp2_with (guard_target =~ wpList _ _ _ (_ :: _) _ _; (first | (guard_target =~ wpList _ _ _ (Oper.mk _ (.store _ _ _) _ _ _ _ :: _) _ _; refine BigFrame.wpList_want rfl (fun K hK => ?_); refine o_store (l' := ?_) (row := ?_) rfl rfl H rfl ?_ ?_ ?_ ?_ (fun w3 H2 => hK _ _ ?_); rotate_left 2; (first | exact r1 | exact r2); (focus (intro _; simp [Act.eval, Value.cells]; done)); (focus (simp [Act.eval, Value.cells]; done)); (exact rfl); clear hK K; clear H; (try clear w2); revert w3; intro w2 H; simp [Act.eval, Value.cells, setL, List.getD] at H) | ((first | (guard_target =~ wpList _ _ _ (Oper.mk _ (.alloc _) _ _ _ _ :: _) _ _; refine BigFrame.wpList_want rfl (fun K hK => ?_); refine o_alloc (z := ?_) rfl ?_ H rfl (fun w3 b2 he H2 => hK _ _ ?_); rotate_left 1; (focus (intro _; simp; with_reducible exact rfl))) | (guard_target =~ wpList _ _ _ (Oper.mk _ (.box _ _) _ _ _ _ :: _) _ _; refine BigFrame.wpList_want rfl (fun K hK => ?_); refine o_box rfl H rfl (fun w3 b2 he H2 => hK _ _ ?_))); clear hK K he; clear H; (try clear w2); revert w3; intro w2 H; simp [Act.eval, Value.cells, setL, List.getD] at H; (first | (clear tk0; rename Nat => d2) | (clear tk1; rename Nat => d3) | (clear tk2; rename Nat => d4)))); simp only [Act.put, List.setIfInBounds_toArray, List.set_cons_succ, List.set_cons_zero])
  go_loopg [] y.natAbs (RGcdRel F w (Nat.gcd x.natAbs y.natAbs) d2 d3 d4)
  case atStart =>
    exact ⟨x.natAbs, A1, A2, c1, c2, b1, o1, b2, o2, a, b, ga.nat, gb.nat, rfl, la, lb, ma, ma2, mb, mb2, f1, f2, H.front3.front4⟩
  case round =>
    clear H
    obtain ⟨p, A, A', c, c', b, o, b', o', l, l', gl, gl', hg, ll, ll', h1, h2, h3, h4, fl, fl', H⟩ := hrel
    have HG := Lib.hid hg
    clear hg
    by_cases h0 : 0 < gk
    · have hl0 : 0 < l'.length := List.length_pos_iff.2 fun h => by have := gl'.nil_iff.1 h; omega
      have HD := fun (F : Nat → Prop) (w : World) hF A A' ha hb => divNn_any F w hF A A' c c' l l' p gk gl gl' h0 ha hb ll ll' h1 h3 h2 h4
      have tk0 : True := trivial
      have tk1 : True := trivial
      go_wp2_with (first
        | (go_at_call 33; (with_reducible refine (HD (FW F _) _ (H.fw_lt rfl hF) _ _ (H.giveRd m1 fl) (H.giveRd m0 fl')).mono ?_); rintro e w3 ⟨A5, c5, l5, A6, c6, l6, rfl, hb, s5, g5, q5, p5, s6, g6, q6, p6⟩; replace H := H.ext hb; clear hb; obtain ⟨b6, o6, H4, f6⟩ := H.addSl s6; clear H s6; have H := H4; clear H4; dsimp only)
        | (guard_target =~ wpList _ _ _ (_ :: _) _ _; (first | (guard_target =~ wpList _ _ _ (Oper.mk _ (.load _ _) _ _ _ _ :: _) _ _; refine BigFrame.wpList_want rfl (fun K hK => ?_); (first | (refine o_loadC (v := ?_) (row := ?_) rfl rfl H ?_ ?_ ?_ (hK _ _ ?_); rotate_left 2; (repeat first | exact .head _ | apply List.Mem.tail); (exact rfl); (focus (intro _; simp; done))) | (refine o_loadNC (row := ?_) rfl rfl H ?_ ?_ ?_ (hK _ _ ?_); rotate_left 1; (repeat first | exact .head _ | apply List.Mem.tail); (focus (intro _; simp; done)); (focus (intro _; simp; done)))); clear hK K) | (guard_target =~ wpList _ _ _ (Oper.mk _ (.store _ _ _) _ _ _ _ :: _) _ _; refine BigFrame.wpList_want rfl (fun K hK => ?_); refine o_store (l' := ?_) (row := ?_) rfl rfl H rfl ?_ ?_ ?_ ?_ (fun w3 H2 => hK _ _ ?_); rotate_left 2; (first | exact r0 | exact r1 | exact r6 | exact r7); (focus (intro _; simp [Act.eval, Value.cells]; done)); (focus (simp [Act.eval, Value.cells]; done)); (exact rfl); clear hK K; clear H; (try clear w2); revert w3; intro w2 H; simp [Act.eval, Value.cells, setL, List.getD] at H) | ((guard_target =~ wpList _ _ _ (Oper.mk _ (.alloc _) _ _ _ _ :: _) _ _; refine BigFrame.wpList_want rfl (fun K hK => ?_); refine o_alloc (z := ?_) rfl ?_ H rfl (fun w3 b2 he H2 => hK _ _ ?_); rotate_left 1; (focus (intro _; simp; with_reducible exact rfl))); clear hK K he; clear H; (try clear w2); revert w3; intro w2 H; simp [Act.eval, Value.cells, setL, List.getD] at H; (first | (clear tk0; rename Nat => d5) | (clear tk1; rename Nat => d6)))); simp only [Act.put, List.setIfInBounds_toArray, List.set_cons_succ, List.set_cons_zero]))
      go_roundg (p % gk)
      case rel =>
        have hlen : l6.length ≤ 450 := by
          have := g6.len_of (Nat.le_of_lt (Nat.mod_lt p h0)) (by have := gl'.lt; rwa [Int.natAbs_natCast] at this)
          omega
        refine ⟨gk, A', A6, c', c6, b', o', b6, o6, l', l6, gl', g6, ?_, ll', hlen, h3, h4, q6, p6, fl', f6, H.sub (.cons _ (.cons _ (.cons_cons _ (.cons_cons _ (.cons _ (.refl _))))))⟩
        rw [← HG.out, Nat.gcd_comm gk, ← Nat.gcd_rec, Nat.gcd_comm]
      case measure => exact Nat.mod_lt _ h0
    · obtain rfl : gk = 0 := by omega
      obtain rfl : l' = [] := gl'.nil_iff.2 rfl
      have hg : p = Nat.gcd x.natAbs y.natAbs := by rw [← HG.out, Nat.gcd_zero_right]
      have HG2 := Lib.hid hg
      clear hg HG
      go_wp2_with (guard_target =~ wpList _ _ _ (_ :: _) _ _; (first | (guard_target =~ wpList _ _ _ (Oper.mk _ (.load _ _) _ _ _ _ :: _) _ _; refine BigFrame.wpList_want rfl (fun K hK => ?_); (first | (refine o_loadC (v := ?_) (row := ?_) rfl rfl H ?_ ?_ ?_ (hK _ _ ?_); rotate_left 2; (repeat first | exact .head _ | apply List.Mem.tail); (exact rfl); (focus (intro _; simp; done))) | (refine o_loadNC (row := ?_) rfl rfl H ?_ ?_ ?_ (hK _ _ ?_); rotate_left 1; (repeat first | exact .head _ | apply List.Mem.tail); (focus (intro _; simp; done)); (focus (intro _; simp; done)))); clear hK K) | (guard_target =~ wpList _ _ _ (Oper.mk _ (.store _ _ _) _ _ _ _ :: _) _ _; refine BigFrame.wpList_want rfl (fun K hK => ?_); refine o_store (l' := ?_) (row := ?_) rfl rfl H rfl ?_ ?_ ?_ ?_ (fun w3 H2 => hK _ _ ?_); rotate_left 2; (exact r2); (focus (intro _; simp [Act.eval, Value.cells]; done)); (focus (simp [Act.eval, Value.cells]; done)); (exact rfl); clear hK K; clear H; (try clear w2); revert w3; intro w2 H; simp [Act.eval, Value.cells, setL, List.getD] at H)); simp only [Act.put, List.setIfInBounds_toArray, List.set_cons_succ, List.set_cons_zero])
      have hr := H.loadVarN (P := Try.prog) (ty := 31) m2 (by simp) (by simp)
      rw [← HG2.out]
      exact bodyPost_ret (v := .agg #[.bool false, .slice A l.length c]) (by simp [results, Try.results37, asAddr, hr]) rfl ⟨A, c, l, rfl, H.below, (H.giveRd m1 fl).fw, gl, h1, h2⟩
end Go.Proofs.Ytdgpdafkngoegaa
