/-
  The walks of geom: points in range, order, turns, what is on a line.
-/
import Derived.Test.YtlhmjhildlnokaaOwn5
import Derived.Test.YtlhmjhildlnokaaGeo
import Derived.Test.YtlhmjhildlnokaaRows
import Derived.Deep.LoopGhost
namespace Go.Proofs.Ytlhmjhildlnokaa
set_option linter.unusedVariables false
set_option linter.unusedSimpArgs false
open Go.RowKit

/-- A point's value. -/
abbrev pV (x y : Int) : Value := .agg #[.int .i64 x, .int .i64 y]
theorem ret_b {b v : Bool} (h : b = v) : Ending.returned (.bool b) = .returned (.bool v) := by rw [h]
theorem ret_i {a b : Int} (h : a = b) : Ending.returned (.int .i64 a) = .returned (.int .i64 b) := by rw [h]
theorem in_t {x y : Int} (h : (-268435456 ≤ x ∧ x ≤ 268435456) ∧ -268435456 ≤ y ∧ y ≤ 268435456) : inB ⟨x, y⟩ = true := decide_eq_true h
theorem in_f {x y : Int} (h : ¬ ((-268435456 ≤ x ∧ x ≤ 268435456) ∧ -268435456 ≤ y ∧ y ≤ 268435456)) : inB ⟨x, y⟩ = false := decide_eq_false h
theorem less_t {a b c d : Int} (h : a < c ∨ a = c ∧ b < d) : lessB ⟨a, b⟩ ⟨c, d⟩ = true := decide_eq_true h
theorem less_f {a b c d : Int} (h : ¬ (a < c ∨ a = c ∧ b < d)) : lessB ⟨a, b⟩ ⟨c, d⟩ = false := decide_eq_false h
theorem in_d {x y : Int} {q : Prop} [Decidable q] (h : q ↔ ((-268435456 ≤ x ∧ x ≤ 268435456) ∧ -268435456 ≤ y ∧ y ≤ 268435456)) : decide q = inB ⟨x, y⟩ := decide_eq_decide.2 h
theorem less_d {a b c d : Int} {q : Prop} [Decidable q] (h : q ↔ (a < c ∨ a = c ∧ b < d)) : decide q = lessB ⟨a, b⟩ ⟨c, d⟩ := decide_eq_decide.2 h
theorem geomIn_any (x y : Int) (w : World) :
    Calls Try.prog 55 #[pV x y] w fun e w' => e = .returned (.bool (inB ⟨x, y⟩)) ∧ Below w.heap.size w w' := by
  obtain ⟨v, hv⟩ : ∃ v, inB ⟨x, y⟩ = v := ⟨_, rfl⟩
  have HV := Lib.hid hv
  rw [hv]; clear hv
  go_enter Try.func55, Try.ntmps55
  go_wp2
  all_goals
    go_ret
    refine ⟨ret_b ?_, below_alloc1 _ _⟩
    rw [← HV.out]
    first | exact in_d (x := x) (y := y) (by omega) | exact Eq.symm (in_t (x := x) (y := y) (by omega)) | exact Eq.symm (in_f (x := x) (y := y) (by omega))
set_option maxRecDepth 100000 in
set_option maxHeartbeats 4000000 in
theorem geomLess_any (ax ay bx b_y : Int) (w : World) :
    Calls Try.prog 69 #[pV ax ay, pV bx b_y] w fun e w' => e = .returned (.bool (lessB ⟨ax, ay⟩ ⟨bx, b_y⟩)) ∧ Below w.heap.size w w' := by
  have H := Own.start w
  obtain ⟨v, hv⟩ : ∃ v, lessB ⟨ax, ay⟩ ⟨bx, b_y⟩ = v := ⟨_, rfl⟩
  have HV := Lib.hid hv
  rw [hv]; clear hv
  go_enter Try.func69, Try.ntmps69
  go_wp2_with (first
    | go_big_skip
    | (guard_target =~ wpList _ _ _ (_ :: _) _ _; (first | (guard_target =~ wpList _ _ _ (Oper.mk _ (.load _ _) _ _ _ _ :: _) _ _; refine BigFrame.wpList_want rfl (fun K hK => ?_); (refine o_loadC (v := ?_) (row := ?_) rfl rfl H ?_ ?_ ?_ (hK _ _ ?_); rotate_left 2; (repeat first | exact .head _ | apply List.Mem.tail); (exact rfl); (focus (intro _; simp; done))); clear hK K) | ((guard_target =~ wpList _ _ _ (Oper.mk _ (.box _ _) _ _ _ _ :: _) _ _; refine BigFrame.wpList_want rfl (fun K hK => ?_); refine o_box rfl H rfl (fun w3 b2 he H2 => hK _ _ ?_)); clear hK K he; clear H; (try clear w2); revert w3; intro w2 H; simp [Act.eval, Value.cells, setL, List.getD] at H)); simp only [Act.put, List.setIfInBounds_toArray, List.set_cons_succ, List.set_cons_zero]))
  all_goals
    go_ret
    refine ⟨ret_b ?_, H.below⟩
    rw [← HV.out]
    first | exact less_d (a := ax) (b := ay) (c := bx) (d := b_y) (by omega) | exact Eq.symm (less_t (a := ax) (b := ay) (c := bx) (d := b_y) (by omega)) | exact Eq.symm (less_f (a := ax) (b := ay) (c := bx) (d := b_y) (by omega))
theorem sign64_any (n : Int) (w : World) :
    Calls Try.prog 107 #[.int .i64 n] w fun e w' => e = .returned (.int .i64 (sgnZ n)) ∧ w = w' := by
  rcases sg_cases n with ⟨h, k⟩ | ⟨h, k⟩ | ⟨h, k⟩
  · rw [k]; clear k
    go_enter Try.func107, Try.ntmps107
    go_wp2
    go_ret
    exact ⟨rfl, rfl⟩
  · rw [k]; clear k; subst h
    go_enter Try.func107, Try.ntmps107
    go_wp2
    go_ret
    exact ⟨rfl, rfl⟩
  · rw [k]; clear k
    have h' : ¬ n < 0 := by omega
    go_enter Try.func107, Try.ntmps107
    go_wp2
    go_ret
    exact ⟨rfl, rfl⟩
set_option maxRecDepth 100000 in
set_option maxHeartbeats 4000000 in
theorem turn_any (ax ay bx b_y cx cy : Int) (ha : InP ⟨ax, ay⟩) (hb : InP ⟨bx, b_y⟩) (hc : InP ⟨cx, cy⟩) (w : World) :
    Calls Try.prog 88 #[pV ax ay, pV bx b_y, pV cx cy] w fun e w' => e = .returned (.int .i64 (turnZ ⟨ax, ay⟩ ⟨bx, b_y⟩ ⟨cx, cy⟩)) ∧ Below w.heap.size w w' := by
  have H := Own.start w
  obtain ⟨⟨a1, a2⟩, a3, a4⟩ := ha
  obtain ⟨⟨b1, b2⟩, b3, b4⟩ := hb
  obtain ⟨⟨c1, c2⟩, c3, c4⟩ := hc
  dsimp only at a1 a2 a3 a4 b1 b2 b3 b4 c1 c2 c3 c4
  have p1 := mul_bound (u := bx - ax) (v := cy - ay) (B := 536870912) (C := 536870912) (by omega) (by omega) (by omega) (by omega)
  have p2 := mul_bound (u := b_y - ay) (v := cx - ax) (B := 536870912) (C := 536870912) (by omega) (by omega) (by omega) (by omega)
  simp only [show (536870912 : Int) * 536870912 = 288230376151711744 from rfl] at p1 p2
  obtain ⟨p1, p1'⟩ := p1
  obtain ⟨p2, p2'⟩ := p2
  go_enter Try.func88, Try.ntmps88
  go_wp2_with (first
    | (go_at_call 107; (with_reducible refine (sign64_any _ _).mono ?_); rintro e w3 ⟨rfl, rfl⟩; dsimp only; (skip))
    | (guard_target =~ wpList _ _ _ (_ :: _) _ _; (first | (guard_target =~ wpList _ _ _ (Oper.mk _ (.load _ _) _ _ _ _ :: _) _ _; refine BigFrame.wpList_want rfl (fun K hK => ?_); (refine o_loadC (v := ?_) (row := ?_) rfl rfl H ?_ ?_ ?_ (hK _ _ ?_); rotate_left 2; (repeat first | exact .head _ | apply List.Mem.tail); (exact rfl); (focus (intro _; simp; done))); clear hK K) | ((guard_target =~ wpList _ _ _ (Oper.mk _ (.box _ _) _ _ _ _ :: _) _ _; refine BigFrame.wpList_want rfl (fun K hK => ?_); refine o_box rfl H rfl (fun w3 b2 he H2 => hK _ _ ?_)); clear hK K he; clear H; (try clear w2); revert w3; intro w2 H; simp [Act.eval, Value.cells, setL, List.getD] at H)); simp only [Act.put, List.setIfInBounds_toArray, List.set_cons_succ, List.set_cons_zero]))
  go_ret
  exact ⟨rfl, H.below⟩
set_option maxRecDepth 100000 in
set_option maxHeartbeats 4000000 in
theorem between_any (px py ax ay bx b_y : Int) (w : World) :
    Calls Try.prog 93 #[pV px py, pV ax ay, pV bx b_y] w fun e w' => e = .returned (.bool (betwB ⟨px, py⟩ ⟨ax, ay⟩ ⟨bx, b_y⟩)) ∧ Below w.heap.size w w' := by
  have H := Own.start w
  have e : betwB ⟨px, py⟩ ⟨ax, ay⟩ ⟨bx, b_y⟩ = ((lessB ⟨ax, ay⟩ ⟨px, py⟩ && lessB ⟨px, py⟩ ⟨bx, b_y⟩) || (lessB ⟨bx, b_y⟩ ⟨px, py⟩ && lessB ⟨px, py⟩ ⟨ax, ay⟩)) := rfl
  have l1 := geomLess_any ax ay px py
  have l2 := geomLess_any px py bx b_y
  have l3 := geomLess_any bx b_y px py
  have l4 := geomLess_any px py ax ay
  rw [e]
  clear e
  generalize lessB ⟨ax, ay⟩ ⟨px, py⟩ = v1 at l1 ⊢
  generalize lessB ⟨px, py⟩ ⟨bx, b_y⟩ = v2 at l2 ⊢
  generalize lessB ⟨bx, b_y⟩ ⟨px, py⟩ = v3 at l3 ⊢
  generalize lessB ⟨px, py⟩ ⟨ax, ay⟩ = v4 at l4 ⊢
  cases v1 <;> cases v2 <;> cases v3
  all_goals
    go_enter Try.func93, Try.ntmps93
    go_wp2_with (first
      | go_big_skip
      | (go_at_call 69; (with_reducible refine (l1 _).mono ?_); rintro e w3 ⟨rfl, hb⟩; replace H := H.ext hb; clear hb; dsimp only; (skip))
      | (go_at_call 69; (with_reducible refine (l2 _).mono ?_); rintro e w3 ⟨rfl, hb⟩; replace H := H.ext hb; clear hb; dsimp only; (skip))
      | (go_at_call 69; (with_reducible refine (l3 _).mono ?_); rintro e w3 ⟨rfl, hb⟩; replace H := H.ext hb; clear hb; dsimp only; (skip))
      | (go_at_call 69; (with_reducible refine (l4 _).mono ?_); rintro e w3 ⟨rfl, hb⟩; replace H := H.ext hb; clear hb; dsimp only; (skip))
      | (guard_target =~ wpList _ _ _ (_ :: _) _ _; (first | (guard_target =~ wpList _ _ _ (Oper.mk _ (.load _ _) _ _ _ _ :: _) _ _; refine BigFrame.wpList_want rfl (fun K hK => ?_); (refine o_loadNC (row := ?_) rfl rfl H ?_ ?_ ?_ (hK _ _ ?_); rotate_left 1; (repeat first | exact .head _ | apply List.Mem.tail); (focus (intro _; simp; done)); (focus (intro _; simp; done))); clear hK K) | ((guard_target =~ wpList _ _ _ (Oper.mk _ (.box _ _) _ _ _ _ :: _) _ _; refine BigFrame.wpList_want rfl (fun K hK => ?_); refine o_box rfl H rfl (fun w3 b2 he H2 => hK _ _ ?_)); clear hK K he; clear H; (try clear w2); revert w3; intro w2 H; simp [Act.eval, Value.cells, setL, List.getD] at H)); simp only [Act.put, List.setIfInBounds_toArray, List.set_cons_succ, List.set_cons_zero]))
    go_ret
    exact ⟨by simp, H.below⟩
end Go.Proofs.Ytlhmjhildlnokaa
