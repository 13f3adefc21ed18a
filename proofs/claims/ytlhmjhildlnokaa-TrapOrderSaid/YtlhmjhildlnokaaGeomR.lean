/-
  The walks of the document's layer 5: range, areas, turns, what is on a line.
-/
import Derived.Test.YtlhmjhildlnokaaGeom3
namespace Go.Proofs.Ytlhmjhildlnokaa
set_option linter.unusedVariables false
set_option linter.unusedSimpArgs false
open Go.RowKit

theorem refIn_any (x y : Int) (w : World) :
    Calls Try.prog 48 #[pV x y] w fun e w' => e = .returned (.bool (inB ⟨x, y⟩)) ∧ Below w.heap.size w w' := by
  obtain ⟨v, hv⟩ : ∃ v, inB ⟨x, y⟩ = v := ⟨_, rfl⟩
  have HV := Lib.hid hv
  rw [hv]; clear hv
  go_enter Try.func48, Try.ntmps48
  go_wp2
  all_goals
    go_ret
    refine ⟨ret_b ?_, below_alloc1 _ _⟩
    rw [← HV.out]
    first | exact in_d (x := x) (y := y) (by omega) | exact Eq.symm (in_t (x := x) (y := y) (by omega)) | exact Eq.symm (in_f (x := x) (y := y) (by omega))
theorem area_cross (ax ay bx b_y cx cy : Int) : ax * b_y - ay * bx + bx * cy - b_y * cx + cx * ay - cy * ax = crossZ ⟨ax, ay⟩ ⟨bx, b_y⟩ ⟨cx, cy⟩ := by
  unfold crossZ
  dsimp only
  grind
set_option maxRecDepth 100000 in
set_option maxHeartbeats 4000000 in
theorem refArea_any (ax ay bx b_y cx cy : Int) (ha : InP ⟨ax, ay⟩) (hb : InP ⟨bx, b_y⟩) (hc : InP ⟨cx, cy⟩) (w : World) :
    Calls Try.prog 89 #[pV ax ay, pV bx b_y, pV cx cy] w fun e w' => e = .returned (.int .i64 (crossZ ⟨ax, ay⟩ ⟨bx, b_y⟩ ⟨cx, cy⟩)) ∧ Below w.heap.size w w' := by
  have H := Own.start w
  rw [← area_cross]
  obtain ⟨⟨a1, a2⟩, a3, a4⟩ := ha
  obtain ⟨⟨b1, b2⟩, b3, b4⟩ := hb
  obtain ⟨⟨c1, c2⟩, c3, c4⟩ := hc
  dsimp only at a1 a2 a3 a4 b1 b2 b3 b4 c1 c2 c3 c4
  obtain ⟨p1, q1⟩ := mul_bound a1 a2 b3 b4
  obtain ⟨p2, q2⟩ := mul_bound a3 a4 b1 b2
  obtain ⟨p3, q3⟩ := mul_bound b1 b2 c3 c4
  obtain ⟨p4, q4⟩ := mul_bound b3 b4 c1 c2
  obtain ⟨p5, q5⟩ := mul_bound c1 c2 a3 a4
  obtain ⟨p6, q6⟩ := mul_bound c3 c4 a1 a2
  simp only [show (268435456 : Int) * 268435456 = 72057594037927936 from rfl] at p1 q1 p2 q2 p3 q3 p4 q4 p5 q5 p6 q6
  go_enter Try.func89, Try.ntmps89
  go_wp2_with (guard_target =~ wpList _ _ _ (_ :: _) _ _; (first | (guard_target =~ wpList _ _ _ (Oper.mk _ (.load _ _) _ _ _ _ :: _) _ _; refine BigFrame.wpList_want rfl (fun K hK => ?_); (refine o_loadC (v := ?_) (row := ?_) rfl rfl H ?_ ?_ ?_ (hK _ _ ?_); rotate_left 2; (repeat first | exact .head _ | apply List.Mem.tail); (exact rfl); (focus (intro _; simp; done))); clear hK K) | ((guard_target =~ wpList _ _ _ (Oper.mk _ (.box _ _) _ _ _ _ :: _) _ _; refine BigFrame.wpList_want rfl (fun K hK => ?_); refine o_box rfl H rfl (fun w3 b2 he H2 => hK _ _ ?_)); clear hK K he; clear H; (try clear w2); revert w3; intro w2 H; simp [Act.eval, Value.cells, setL, List.getD] at H)); simp only [Act.put, List.setIfInBounds_toArray, List.set_cons_succ, List.set_cons_zero])
  go_ret
  exact ⟨rfl, H.below⟩
set_option maxRecDepth 100000 in
set_option maxHeartbeats 4000000 in
theorem refTurn_any (ax ay bx b_y cx cy : Int) (ha : InP ⟨ax, ay⟩) (hb : InP ⟨bx, b_y⟩) (hc : InP ⟨cx, cy⟩) (w : World) :
    Calls Try.prog 72 #[pV ax ay, pV bx b_y, pV cx cy] w fun e w' => e = .returned (.int .i64 (turnZ ⟨ax, ay⟩ ⟨bx, b_y⟩ ⟨cx, cy⟩)) ∧ Below w.heap.size w w' := by
  have H := Own.start w
  have hA := refArea_any ax ay bx b_y cx cy ha hb hc
  unfold turnZ
  clear ha hb hc
  generalize crossZ ⟨ax, ay⟩ ⟨bx, b_y⟩ ⟨cx, cy⟩ = n at hA ⊢
  rcases sg_cases n with ⟨h, k⟩ | ⟨h, k⟩ | ⟨h, k⟩
  · rw [k]; clear k
    have h' : ¬ 0 < n := by omega
    go_enter Try.func72, Try.ntmps72
    go_wp2_with (first
      | (go_at_call 89; (with_reducible refine (hA _).mono ?_); rintro e w3 ⟨rfl, hb⟩; replace H := H.ext hb; clear hb; dsimp only; (skip))
      | (guard_target =~ wpList _ _ _ (_ :: _) _ _; (first | (guard_target =~ wpList _ _ _ (Oper.mk _ (.load _ _) _ _ _ _ :: _) _ _; refine BigFrame.wpList_want rfl (fun K hK => ?_); (refine o_loadNC (row := ?_) rfl rfl H ?_ ?_ ?_ (hK _ _ ?_); rotate_left 1; (repeat first | exact .head _ | apply List.Mem.tail); (focus (intro _; simp; done)); (focus (intro _; simp; done))); clear hK K) | ((guard_target =~ wpList _ _ _ (Oper.mk _ (.box _ _) _ _ _ _ :: _) _ _; refine BigFrame.wpList_want rfl (fun K hK => ?_); refine o_box rfl H rfl (fun w3 b2 he H2 => hK _ _ ?_)); clear hK K he; clear H; (try clear w2); revert w3; intro w2 H; simp [Act.eval, Value.cells, setL, List.getD] at H)); simp only [Act.put, List.setIfInBounds_toArray, List.set_cons_succ, List.set_cons_zero]))
    go_ret
    exact ⟨rfl, H.below⟩
  · rw [k]; clear k; subst h
    go_enter Try.func72, Try.ntmps72
    go_wp2_with (first
      | (go_at_call 89; (with_reducible refine (hA _).mono ?_); rintro e w3 ⟨rfl, hb⟩; replace H := H.ext hb; clear hb; dsimp only; (skip))
      | (guard_target =~ wpList _ _ _ (_ :: _) _ _; (first | (guard_target =~ wpList _ _ _ (Oper.mk _ (.load _ _) _ _ _ _ :: _) _ _; refine BigFrame.wpList_want rfl (fun K hK => ?_); (refine o_loadNC (row := ?_) rfl rfl H ?_ ?_ ?_ (hK _ _ ?_); rotate_left 1; (repeat first | exact .head _ | apply List.Mem.tail); (focus (intro _; simp; done)); (focus (intro _; simp; done))); clear hK K) | ((guard_target =~ wpList _ _ _ (Oper.mk _ (.box _ _) _ _ _ _ :: _) _ _; refine BigFrame.wpList_want rfl (fun K hK => ?_); refine o_box rfl H rfl (fun w3 b2 he H2 => hK _ _ ?_)); clear hK K he; clear H; (try clear w2); revert w3; intro w2 H; simp [Act.eval, Value.cells, setL, List.getD] at H)); simp only [Act.put, List.setIfInBounds_toArray, List.set_cons_succ, List.set_cons_zero]))
    go_ret
    exact ⟨rfl, H.below⟩
  · rw [k]; clear k
    go_enter Try.func72, Try.ntmps72
    go_wp2_with (first
      | (go_at_call 89; (with_reducible refine (hA _).mono ?_); rintro e w3 ⟨rfl, hb⟩; replace H := H.ext hb; clear hb; dsimp only; (skip))
      | (guard_target =~ wpList _ _ _ (_ :: _) _ _; (first | (guard_target =~ wpList _ _ _ (Oper.mk _ (.load _ _) _ _ _ _ :: _) _ _; refine BigFrame.wpList_want rfl (fun K hK => ?_); (refine o_loadNC (row := ?_) rfl rfl H ?_ ?_ ?_ (hK _ _ ?_); rotate_left 1; (repeat first | exact .head _ | apply List.Mem.tail); (focus (intro _; simp; done)); (focus (intro _; simp; done))); clear hK K) | ((guard_target =~ wpList _ _ _ (Oper.mk _ (.box _ _) _ _ _ _ :: _) _ _; refine BigFrame.wpList_want rfl (fun K hK => ?_); refine o_box rfl H rfl (fun w3 b2 he H2 => hK _ _ ?_)); clear hK K he; clear H; (try clear w2); revert w3; intro w2 H; simp [Act.eval, Value.cells, setL, List.getD] at H)); simp only [Act.put, List.setIfInBounds_toArray, List.set_cons_succ, List.set_cons_zero]))
    go_ret
    exact ⟨rfl, H.below⟩
theorem within_t {p a b : Pt} (h : WithinP p a b) : withinB p a b = true := decide_eq_true h
theorem within_f {p a b : Pt} (h : ¬ WithinP p a b) : withinB p a b = false := decide_eq_false h
/-- What is within, in the order in which it is asked. -/
theorem within_eq (px py ax ay bx b_y : Int) (t : Int) (ht : turnZ ⟨ax, ay⟩ ⟨bx, b_y⟩ ⟨px, py⟩ = t) :
    withinB ⟨px, py⟩ ⟨ax, ay⟩ ⟨bx, b_y⟩ = decide (t = 0 ∧ (ax ≤ px ∧ px ≤ bx ∨ bx ≤ px ∧ px ≤ ax) ∧ (ay ≤ py ∧ py ≤ b_y ∨ b_y ≤ py ∧ py ≤ ay)) := by
  subst ht; rfl
theorem dec_t {q : Prop} [Decidable q] (h : q) : true = decide q := (decide_eq_true h).symm
theorem dec_f {q : Prop} [Decidable q] (h : ¬ q) : false = decide q := (decide_eq_false h).symm
theorem dec_d {p q : Prop} [Decidable p] [Decidable q] (h : p ↔ q) : decide p = decide q := decide_eq_decide.2 h
set_option maxRecDepth 100000 in
set_option maxHeartbeats 8000000 in
theorem refWithin_any (px py ax ay bx b_y : Int) (hp : InP ⟨px, py⟩) (ha : InP ⟨ax, ay⟩) (hb : InP ⟨bx, b_y⟩) (w : World) :
    Calls Try.prog 92 #[pV px py, pV ax ay, pV bx b_y] w fun e w' => e = .returned (.bool (withinB ⟨px, py⟩ ⟨ax, ay⟩ ⟨bx, b_y⟩)) ∧ Below w.heap.size w w' := by
  have H := Own.start w
  have hT := refTurn_any ax ay bx b_y px py ha hb hp
  obtain ⟨t, ht⟩ : ∃ t, turnZ ⟨ax, ay⟩ ⟨bx, b_y⟩ ⟨px, py⟩ = t := ⟨_, rfl⟩
  have hv := within_eq px py ax ay bx b_y t ht
  rw [ht] at hT
  obtain ⟨v, ev⟩ : ∃ v, withinB ⟨px, py⟩ ⟨ax, ay⟩ ⟨bx, b_y⟩ = v := ⟨_, rfl⟩
  rw [ev] at hv ⊢
  clear ev hp ha hb ht
  by_cases h0 : t = 0
  · subst h0
    simp only [true_and] at hv
    have HV := Lib.hid hv
    clear hv
    go_enter Try.func92, Try.ntmps92
    go_wp2_with (first
      | go_big_skip
      | (go_at_call 72; (with_reducible refine (hT _).mono ?_); rintro e w3 ⟨rfl, hb⟩; replace H := H.ext hb; clear hb; dsimp only; (skip))
      | (guard_target =~ wpList _ _ _ (_ :: _) _ _; (first | (guard_target =~ wpList _ _ _ (Oper.mk _ (.load _ _) _ _ _ _ :: _) _ _; refine BigFrame.wpList_want rfl (fun K hK => ?_); (first | (refine o_loadC (v := ?_) (row := ?_) rfl rfl H ?_ ?_ ?_ (hK _ _ ?_); rotate_left 2; (repeat first | exact .head _ | apply List.Mem.tail); (exact rfl); (focus (intro _; simp; done))) | (refine o_loadNC (row := ?_) rfl rfl H ?_ ?_ ?_ (hK _ _ ?_); rotate_left 1; (repeat first | exact .head _ | apply List.Mem.tail); (focus (intro _; simp; done)); (focus (intro _; simp; done)))); clear hK K) | ((guard_target =~ wpList _ _ _ (Oper.mk _ (.box _ _) _ _ _ _ :: _) _ _; refine BigFrame.wpList_want rfl (fun K hK => ?_); refine o_box rfl H rfl (fun w3 b2 he H2 => hK _ _ ?_)); clear hK K he; clear H; (try clear w2); revert w3; intro w2 H; simp [Act.eval, Value.cells, setL, List.getD] at H)); simp only [Act.put, List.setIfInBounds_toArray, List.set_cons_succ, List.set_cons_zero]))
    all_goals first
      | (exfalso; omega)
      | (go_ret; refine ⟨ret_b ?_, H.below⟩; rw [HV.out]; first | exact dec_d (by omega) | exact dec_t (by omega) | exact dec_f (by omega))
  · have h1 : (t != 0) = true := by simpa using h0
    obtain rfl : v = false := by rw [hv]; exact decide_eq_false (fun h => h0 h.1)
    clear hv h0
    go_enter Try.func92, Try.ntmps92
    go_wp2_with (first
      | (go_at_call 72; (with_reducible refine (hT _).mono ?_); rintro e w3 ⟨rfl, hb⟩; replace H := H.ext hb; clear hb; dsimp only; (skip))
      | (guard_target =~ wpList _ _ _ (_ :: _) _ _; (first | (guard_target =~ wpList _ _ _ (Oper.mk _ (.load _ _) _ _ _ _ :: _) _ _; refine BigFrame.wpList_want rfl (fun K hK => ?_); (refine o_loadNC (row := ?_) rfl rfl H ?_ ?_ ?_ (hK _ _ ?_); rotate_left 1; (repeat first | exact .head _ | apply List.Mem.tail); (focus (intro _; simp; done)); (focus (intro _; simp; done))); clear hK K) | ((guard_target =~ wpList _ _ _ (Oper.mk _ (.box _ _) _ _ _ _ :: _) _ _; refine BigFrame.wpList_want rfl (fun K hK => ?_); refine o_box rfl H rfl (fun w3 b2 he H2 => hK _ _ ?_)); clear hK K he; clear H; (try clear w2); revert w3; intro w2 H; simp [Act.eval, Value.cells, setL, List.getD] at H)); simp only [Act.put, List.setIfInBounds_toArray, List.set_cons_succ, List.set_cons_zero]))
    go_ret
    exact ⟨rfl, H.below⟩
set_option maxRecDepth 100000 in
set_option maxHeartbeats 8000000 in
theorem refOn_any (px py ax ay bx b_y : Int) (hp : InP ⟨px, py⟩) (ha : InP ⟨ax, ay⟩) (hb : InP ⟨bx, b_y⟩) (w : World) :
    Calls Try.prog 76 #[pV px py, pV ax ay, pV bx b_y] w fun e w' => e = .returned (.bool (onR ⟨px, py⟩ ⟨ax, ay⟩ ⟨bx, b_y⟩)) ∧ Below w.heap.size w w' := by
  have H := Own.start w
  have hW := refWithin_any px py ax ay bx b_y hp ha hb
  have e1 := ne_pt px py ax ay
  have e2 := ne_pt px py bx b_y
  rw [← pt_eq] at e1 e2
  have ev : onR ⟨px, py⟩ ⟨ax, ay⟩ ⟨bx, b_y⟩ = (withinB ⟨px, py⟩ ⟨ax, ay⟩ ⟨bx, b_y⟩ && (!decide ((⟨px, py⟩ : Pt) = ⟨ax, ay⟩) && !decide ((⟨px, py⟩ : Pt) = ⟨bx, b_y⟩))) := rfl
  rw [ev]
  clear ev hp ha hb
  generalize withinB ⟨px, py⟩ ⟨ax, ay⟩ ⟨bx, b_y⟩ = v0 at hW ⊢
  generalize decide ((⟨px, py⟩ : Pt) = ⟨ax, ay⟩) = v1 at e1 ⊢
  generalize decide ((⟨px, py⟩ : Pt) = ⟨bx, b_y⟩) = v2 at e2 ⊢
  obtain ⟨v, hv⟩ : ∃ v, (v0 && (!v1 && !v2)) = v := ⟨_, rfl⟩
  rw [hv]
  have HV := Lib.hid hv
  clear hv
  go_enter Try.func76, Try.ntmps76
  go_wp2_with (first
    | go_big_skip
    | (go_at_call 92; (with_reducible refine (hW _).mono ?_); rintro e w3 ⟨rfl, hb⟩; replace H := H.ext hb; clear hb; dsimp only; (skip))
    | (guard_target =~ wpList _ _ _ (_ :: _) _ _; (first | (guard_target =~ wpList _ _ _ (Oper.mk _ (.load _ _) _ _ _ _ :: _) _ _; refine BigFrame.wpList_want rfl (fun K hK => ?_); (refine o_loadNC (row := ?_) rfl rfl H ?_ ?_ ?_ (hK _ _ ?_); rotate_left 1; (repeat first | exact .head _ | apply List.Mem.tail); (focus (intro _; simp; done)); (focus (intro _; simp; done))); clear hK K) | ((guard_target =~ wpList _ _ _ (Oper.mk _ (.box _ _) _ _ _ _ :: _) _ _; refine BigFrame.wpList_want rfl (fun K hK => ?_); refine o_box rfl H rfl (fun w3 b2 he H2 => hK _ _ ?_)); clear hK K he; clear H; (try clear w2); revert w3; intro w2 H; simp [Act.eval, Value.cells, setL, List.getD] at H)); simp only [Act.put, List.setIfInBounds_toArray, List.set_cons_succ, List.set_cons_zero]))
  all_goals
    go_ret
    exact ⟨ret_b (by rw [← HV.out]; simp [*]), H.below⟩
end Go.Proofs.Ytlhmjhildlnokaa
