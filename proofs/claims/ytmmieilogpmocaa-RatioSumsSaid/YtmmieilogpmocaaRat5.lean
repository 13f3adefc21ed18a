/-
  The walks of ratio: sums, differences, products, quotients.
-/
import Derived.Test.YtmmieilogpmocaaRat2
import Derived.Test.YtmmieilogpmocaaRat4
import Derived.Test.YtmmieilogpmocaaOwn5
namespace Go.Proofs.Ytmmieilogpmocaa
set_option linter.unusedVariables false
set_option linter.unusedSimpArgs false
open Go.RowKit

/-- The error, one step on. -/
def nx (e x : Int) : Int := if e = 0 then errZ x else e
theorem nx_03 {e : Int} (x : Int) (he : e = 0 ∨ e = 3) : nx e x = 0 ∨ nx e x = 3 := by
  unfold nx
  split
  · rcases fe x with h | h
    · exact .inl h.2.2
    · exact .inr h.2.2
  · exact he
def madeV (n d e : Int) : Value := if e = 0 then mkV n d else rV 0 0
def madeE (n d e : Int) : Int := if e = 0 then mkE n d else e
theorem madeV_form (n d e : Int) : ∃ p q, madeV n d e = rV p q := by
  unfold madeV mkV
  split
  · split
    · exact ⟨_, _, rfl⟩
    · exact ⟨_, _, rfl⟩
  · exact ⟨_, _, rfl⟩
/-- What a sum of two fractions answers: z is the numerator ahead of reducing. -/
def sumE (n d m e z : Int) : Int := nx (nx (nx (nx 0 (n * e)) (m * d)) z) (d * e)
def sumV (n d m e z : Int) : Value := if rightB n d && rightB m e then madeV (fitZ z) (fitZ (d * e)) (sumE n d m e z) else rV 0 0
def sumU (n d m e z : Int) : Int := if rightB n d && rightB m e then madeE (fitZ z) (fitZ (d * e)) (sumE n d m e z) else 1
/-- What a product answers. -/
def prodE (x y : Int) : Int := nx (nx 0 x) y
def mulV (n d m e : Int) : Value := if rightB n d && rightB m e then madeV (fitZ (n * m)) (fitZ (d * e)) (prodE (n * m) (d * e)) else rV 0 0
def mulU (n d m e : Int) : Int := if rightB n d && rightB m e then madeE (fitZ (n * m)) (fitZ (d * e)) (prodE (n * m) (d * e)) else 1
def divV (n d m e : Int) : Value := if rightB n d && rightB m e then (if m = 0 then rV 0 0 else madeV (fitZ (n * e)) (fitZ (d * m)) (prodE (n * e) (d * m))) else rV 0 0
def divU (n d m e : Int) : Int := if rightB n d && rightB m e then (if m = 0 then 4 else madeE (fitZ (n * e)) (fitZ (d * m)) (prodE (n * e) (d * m))) else 1
theorem do_step (f : Nat) (hf : f = 78 ∨ f = 83 ∨ f = 66) (x y z e : Int) (he : e = 0 ∨ e = 3)
    (hc : ∀ w, Calls Try.prog f #[iV x, iV y] w fun e' w' => e' = .returned (.tuple #[iV (fitZ z), .int .i64 (errZ z)]) ∧ Below w.heap.size w w') :
    ∀ (B : Nat) (w0 w : World) (l : List Res) (b : Nat) (H : Own B w0 w (.cells b [.int .i64 e] :: l)),
    Calls Try.prog 77 #[.pointer (some ⟨b, 0, none⟩), .func (.func f) #[] #[], iV x, iV y] w fun e' w' => e' = .returned (iV (fitZ z)) ∧ Own B w0 w' (.cells b [.int .i64 (nx e z)] :: l) :=
  fun B w0 w l b H => do_any f hf x y z e he hc H
theorem made_step (n d e : Int) (hn : R256 n) (hd : R256 d) (he : e = 0 ∨ e = 3) :
    ∀ (B : Nat) (w0 w : World) (l : List Res) (b : Nat) (H : Own B w0 w (.cells b [.int .i64 e] :: l)),
    Calls Try.prog 79 #[.pointer (some ⟨b, 0, none⟩), iV n, iV d] w fun e' w' => e' = .returned (.tuple #[madeV n d e, .int .i64 (madeE n d e)]) ∧ Own B w0 w' (.cells b [.int .i64 e] :: l) :=
  fun B w0 w l b H => made_any n d e hn hd he H
set_option maxRecDepth 100000 in
set_option maxHeartbeats 8000000 in
theorem both_any (f : Nat) (hf : f = 78 ∨ f = 83 ∨ f = 66) (n d m e : Int) (hn : R256 n) (hd : R256 d) (hm : R256 m) (he : R256 e) (z : Int)
    (hc : ∀ w, Calls Try.prog f #[iV (fitZ (n * e)), iV (fitZ (m * d))] w fun e' w' => e' = .returned (.tuple #[iV (fitZ z), .int .i64 (errZ z)]) ∧ Below w.heap.size w w') (w : World) :
    Calls Try.prog 82 #[rV n d, rV m e, .func (.func f) #[] #[]] w fun e' w' => e' = .returned (.tuple #[sumV n d m e z, .int .i64 (sumU n d m e z)]) ∧ Below w.heap.size w w' := by
  have H := Own.start w
  have hR := fun w => Right_any n d hn hd w
  have hS := fun w => Right_any m e hm he w
  unfold sumV sumU
  have t0 : (0 : Int) = 0 ∨ (0 : Int) = 3 := .inl rfl
  have t1 := nx_03 (n * e) t0
  have t2 := nx_03 (m * d) t1
  have t3 := nx_03 z t2
  have t4 := nx_03 (d * e) t3
  have s1 := do_step 78 (.inl rfl) n e (n * e) 0 t0 (fun w => Mul_any n e hn he w)
  have s2 := do_step 78 (.inl rfl) m d (m * d) _ t1 (fun w => Mul_any m d hm hd w)
  have s3 := do_step f hf (fitZ (n * e)) (fitZ (m * d)) z _ t2 hc
  have s4 := do_step 78 (.inl rfl) d e (d * e) _ t3 (fun w => Mul_any d e hd he w)
  have s5 := made_step (fitZ z) (fitZ (d * e)) _ (fitZ_range _) (fitZ_range _) t4
  have e5 : sumE n d m e z = nx (nx (nx (nx 0 (n * e)) (m * d)) z) (d * e) := rfl
  rw [e5]
  obtain ⟨P, Q, hV⟩ := madeV_form (fitZ z) (fitZ (d * e)) (nx (nx (nx (nx 0 (n * e)) (m * d)) z) (d * e))
  rw [hV] at s5 ⊢
  clear e5 hV t0 t1 t2 t3 t4 hc hf
  generalize madeE (fitZ z) (fitZ (d * e)) (nx (nx (nx (nx 0 (n * e)) (m * d)) z) (d * e)) = U at *
  generalize nx (nx (nx (nx 0 (n * e)) (m * d)) z) (d * e) = E4 at *
  generalize nx (nx (nx 0 (n * e)) (m * d)) z = E3 at *
  generalize nx (nx 0 (n * e)) (m * d) = E2 at *
  generalize nx 0 (n * e) = E1 at *
  generalize fitZ (n * e) = V1 at *
  generalize fitZ (m * d) = V2 at *
  generalize fitZ z = V3 at *
  generalize fitZ (d * e) = V4 at *
  generalize rightB n d = v at *
  generalize rightB m e = u at *
  have hz : ∀ q : Bool, q = true ∨ q = false := fun q => by cases q <;> simp
  by_cases hvu : (v && u) = true
  · rw [hvu, if_pos rfl, if_pos rfl]
    obtain ⟨rfl, rfl⟩ : v = true ∧ u = true := by simpa using hvu
    clear hvu hz
    go_enter Try.func82, Try.ntmps82
    have tk0 : True := trivial
    have tk1 : True := trivial
    have tk2 : True := trivial
    have tk3 : True := trivial
    go_wp2_with (first
      | (guard_target =~ Code.wp _ (Code.region 4 _ true) _ _ _; refine region_tree 4 1 (G := ?_) (.q 0 (.q 1 (.q 2 (.q 3 (.q 4 (.q 6 (.q 7 (.q 8 (.q 9 (.both (.e 5 (.both (.e 10 (.both (.e 11 (.e 12 (.e 13 .nil))) (.e 12 (.e 11 (.e 13 .nil))))) (.e 12 (.e 10 (.e 11 (.e 13 .nil)))))) (.e 12 (.e 5 (.e 10 (.e 11 (.e 13 .nil))))))))))))))) (by kernel_rfl) (by intro c a d v w h; cases d <;> exact h) (by kernel_rfl) H ?_ (fun key4 w3 H2 => ?_); rotate_left 2; (revert w3; intro w2 H); simp only [List.drop_succ_cons, List.drop_zero])
      | (guard_target =~ Key 4 _; refine ⟨?_⟩; intro nb12 w2 H)
      | (guard_target =~ Code.wp _ (Code.region 5 _ true) _ _ _; replace H := (H.front2).front2; refine region_tree 5 2 (G := True) (.q 0 (.q 1 (.q 2 (.q 3 (.q 4 (.e 5 (.e 6 (.q 7 (.q 8 (.e 9 (.q 10 .nil))))))))))) (by kernel_rfl) (by intro c a d v w h; cases d <;> exact h) (by kernel_rfl) H ⟨trivial⟩ (fun _ w3 H2 => ?_); (clear H; (try clear w2); revert w3; intro w2 H); simp only [List.drop_succ_cons, List.drop_zero])
      | (go_at_call 19; (with_reducible refine (hR _).mono ?_); rintro e w3 ⟨rfl, hb⟩; replace H := H.ext hb; clear hb; dsimp only; (skip))
      | (go_at_call 19; (with_reducible refine (hS _).mono ?_); rintro e w3 ⟨rfl, hb⟩; replace H := H.ext hb; clear hb; dsimp only; (skip))
      | (go_at_call 77; (with_reducible refine (s1 _ _ _ _ _ H).mono ?_); rintro e w3 ⟨rfl, H2⟩; replace H := H2; clear H2; dsimp only; (refine hK _ _ ⟨_, H, by repeat first | exact .here | apply Suf.there⟩ ?_; clear hK K; (try simp only [Act.put, List.setIfInBounds_toArray, List.set_cons_succ, List.set_cons_zero, cells_iV, iL_length, setL_i, setL_ii, agg_iL, cells_rV, rL_length, setL_r, setL_rr, agg_rL])))
      | (go_at_call 77; (with_reducible refine (s1 _ _ _ _ _ H.swap).mono ?_); rintro e w3 ⟨rfl, H2⟩; replace H := H2; clear H2; dsimp only; (refine hK _ _ ⟨_, H, by repeat first | exact .here | apply Suf.there⟩ ?_; clear hK K; (try simp only [Act.put, List.setIfInBounds_toArray, List.set_cons_succ, List.set_cons_zero, cells_iV, iL_length, setL_i, setL_ii, agg_iL, cells_rV, rL_length, setL_r, setL_rr, agg_rL])))
      | (go_at_call 77; (with_reducible refine (s2 _ _ _ _ _ H).mono ?_); rintro e w3 ⟨rfl, H2⟩; replace H := H2; clear H2; dsimp only; (refine hK _ _ ⟨_, H, by repeat first | exact .here | apply Suf.there⟩ ?_; clear hK K; (try simp only [Act.put, List.setIfInBounds_toArray, List.set_cons_succ, List.set_cons_zero, cells_iV, iL_length, setL_i, setL_ii, agg_iL, cells_rV, rL_length, setL_r, setL_rr, agg_rL])))
      | (go_at_call 77; (with_reducible refine (s2 _ _ _ _ _ H.swap).mono ?_); rintro e w3 ⟨rfl, H2⟩; replace H := H2; clear H2; dsimp only; (refine hK _ _ ⟨_, H, by repeat first | exact .here | apply Suf.there⟩ ?_; clear hK K; (try simp only [Act.put, List.setIfInBounds_toArray, List.set_cons_succ, List.set_cons_zero, cells_iV, iL_length, setL_i, setL_ii, agg_iL, cells_rV, rL_length, setL_r, setL_rr, agg_rL])))
      | (go_at_call 77; (with_reducible refine (s3 _ _ _ _ _ H).mono ?_); rintro e w3 ⟨rfl, H2⟩; replace H := H2; clear H2; dsimp only; (refine hK _ _ ⟨_, H, by repeat first | exact .here | apply Suf.there⟩ ?_; clear hK K; (try simp only [Act.put, List.setIfInBounds_toArray, List.set_cons_succ, List.set_cons_zero, cells_iV, iL_length, setL_i, setL_ii, agg_iL, cells_rV, rL_length, setL_r, setL_rr, agg_rL])))
      | (go_at_call 77; (with_reducible refine (s3 _ _ _ _ _ H.swap).mono ?_); rintro e w3 ⟨rfl, H2⟩; replace H := H2; clear H2; dsimp only; (refine hK _ _ ⟨_, H, by repeat first | exact .here | apply Suf.there⟩ ?_; clear hK K; (try simp only [Act.put, List.setIfInBounds_toArray, List.set_cons_succ, List.set_cons_zero, cells_iV, iL_length, setL_i, setL_ii, agg_iL, cells_rV, rL_length, setL_r, setL_rr, agg_rL])))
      | (go_at_call 77; (with_reducible refine (s4 _ _ _ _ _ H).mono ?_); rintro e w3 ⟨rfl, H2⟩; replace H := H2; clear H2; dsimp only; (refine hK _ _ ⟨_, H, by repeat first | exact .here | apply Suf.there⟩ ?_; clear hK K; (try simp only [Act.put, List.setIfInBounds_toArray, List.set_cons_succ, List.set_cons_zero, cells_iV, iL_length, setL_i, setL_ii, agg_iL, cells_rV, rL_length, setL_r, setL_rr, agg_rL])))
      | (go_at_call 79; (with_reducible refine (s5 _ _ _ _ _ H).mono ?_); rintro e w3 ⟨rfl, H2⟩; replace H := H2; clear H2; dsimp only; (refine hK _ _ ⟨_, H, by repeat first | exact .here | apply Suf.there⟩ ?_; clear hK K; (try simp only [Act.put, List.setIfInBounds_toArray, List.set_cons_succ, List.set_cons_zero, cells_iV, iL_length, setL_i, setL_ii, agg_iL, cells_rV, rL_length, setL_r, setL_rr, agg_rL])))
      | (guard_target =~ wpList _ _ _ (_ :: _) _ _; (first | (guard_target =~ wpList _ _ _ (Oper.mk _ (.load _ _) _ _ _ _ :: _) _ _; refine BigFrame.wpList_want rfl (fun K hK => ?_); (refine o_loadNC (row := ?_) rfl rfl H ?_ ?_ ?_ (hK _ _ ?_); rotate_left 1; (repeat first | exact .head _ | apply List.Mem.tail); (focus (intro _; simp [cells_iV, iL_length, setL_i, setL_ii, agg_iL, cells_rV, rL_length, setL_r, setL_rr, agg_rL]; done)); (focus (intro _; simp [cells_iV, iL_length, setL_i, setL_ii, agg_iL, cells_rV, rL_length, setL_r, setL_rr, agg_rL]; done))); clear hK K) | ((first | (guard_target =~ wpList _ _ _ (Oper.mk _ (.alloc _) _ _ _ _ :: _) _ _; refine BigFrame.wpList_want rfl (fun K hK => ?_); refine o_alloc (z := ?_) rfl ?_ H rfl (fun w3 b2 he H2 => hK _ _ ?_); rotate_left 1; (focus (intro _; simp; with_reducible exact rfl))) | (guard_target =~ wpList _ _ _ (Oper.mk _ (.box _ _) _ _ _ _ :: _) _ _; refine BigFrame.wpList_want rfl (fun K hK => ?_); refine o_box rfl H rfl (fun w3 b2 he H2 => hK _ _ ?_))); clear hK K he; clear H; (try clear w2); revert w3; intro w2 H; (try simp [Act.eval, List.getD, cells_iV, iL_length, setL_i, setL_ii, agg_iL, cells_rV, rL_length, setL_r, setL_rr, agg_rL] at H); (try simp [Value.cells, setL, cells_iV, iL_length, setL_i, setL_ii, agg_iL, cells_rV, rL_length, setL_r, setL_rr, agg_rL] at H); (first | (clear tk0; rename Nat => c1) | (clear tk1; rename Nat => c2) | (clear tk2; rename Nat => c3) | (clear tk3; rename Nat => c4)))); simp only [Act.put, List.setIfInBounds_toArray, List.set_cons_succ, List.set_cons_zero, cells_iV, iL_length, setL_i, setL_ii, agg_iL, cells_rV, rL_length, setL_r, setL_rr, agg_rL])
      | (guard_target =~ wpTree _ _ _ _ _ _ _; first | (guard_target =~ wpTree _ _ _ (Tr.q _ _) _ _ _; first | (refine tree_quiet ⟨_, H, by repeat first | exact .here | apply Suf.there⟩ rfl rfl rfl (fun K hK => ?_); simp only [List.getElem_toArray, List.getElem_cons_succ, List.getElem_cons_zero]; first | (guard_target =~ Oper.quiet _ (Oper.mk _ (.build _ _) _ _ _ _) _ _ _; (first | fail); clear hK K; simp only [Act.put, List.setIfInBounds_toArray, List.set_cons_succ, List.set_cons_zero, cells_iV, iL_length, setL_i, setL_ii, agg_iL, cells_rV, rL_length, setL_r, setL_rr, agg_rL]) | (guard_target =~ Oper.quiet _ (Oper.mk _ (.load _ _) _ _ _ _) _ _ _; (first | (refine q_loadNum (n := ?_) (d := ?_) rfl rfl ?_ ?_ ?_ (hK _ ?_); rotate_left 2; (repeat first | exact .head _ | apply List.Mem.tail); (focus (intro _; simp [cells_iV, iL_length, setL_i, setL_ii, agg_iL, cells_rV, rL_length, setL_r, setL_rr, agg_rL]; done)); (focus (intro _; simp [cells_iV, iL_length, setL_i, setL_ii, agg_iL, cells_rV, rL_length, setL_r, setL_rr, agg_rL]; done))) | (refine q_loadDen (n := ?_) (d := ?_) rfl rfl ?_ ?_ ?_ (hK _ ?_); rotate_left 2; (repeat first | exact .head _ | apply List.Mem.tail); (focus (intro _; simp [cells_iV, iL_length, setL_i, setL_ii, agg_iL, cells_rV, rL_length, setL_r, setL_rr, agg_rL]; done)); (focus (intro _; simp [cells_iV, iL_length, setL_i, setL_ii, agg_iL, cells_rV, rL_length, setL_r, setL_rr, agg_rL]; done))) | (refine q_loadNC (row := ?_) rfl rfl ?_ ?_ ?_ (hK _ ?_); rotate_left 1; (repeat first | exact .head _ | apply List.Mem.tail); (focus (intro _; simp [cells_iV, iL_length, setL_i, setL_ii, agg_iL, cells_rV, rL_length, setL_r, setL_rr, agg_rL]; done)); (focus (intro _; simp [cells_iV, iL_length, setL_i, setL_ii, agg_iL, cells_rV, rL_length, setL_r, setL_rr, agg_rL]; done)))); clear hK K; simp only [Act.put, List.setIfInBounds_toArray, List.set_cons_succ, List.set_cons_zero, cells_iV, iL_length, setL_i, setL_ii, agg_iL, cells_rV, rL_length, setL_r, setL_rr, agg_rL]) | (go_big_quiet_op; (try refine ⟨_, fun _ _ => rfl, ?_⟩); refine hK _ ?_; clear hK K)) | (refine tree_skip ⟨_, H, by repeat first | exact .here | apply Suf.there⟩ rfl rfl ?_; simp only [List.getElem_toArray, List.getElem_cons_succ, List.getElem_cons_zero, Act.put, List.setIfInBounds_toArray, List.set_cons_succ, List.set_cons_zero])) | (guard_target =~ wpTree _ _ _ (Tr.e _ _) _ _ _; (guard_target =~ wpTree _ _ _ (Tr.e 12 _) _ _ _; refine tree_one rfl rfl (fun K hK => ?_); simp only [List.getElem_toArray, List.getElem_cons_succ, List.getElem_cons_zero]; ((guard_target =~ Oper.wp _ (Oper.mk _ (.alloc _) _ _ _ _) _ _ _ _; refine o_alloc (z := ?_) rfl ?_ H rfl (fun w3 b2 he H2 => hK _ _ ⟨_, H2, ?_⟩ ?_); rotate_left 1; (focus (intro _; simp; with_reducible exact rfl))); (guard_target =~ Suf _ _; repeat first | exact .here | apply Suf.there); clear hK K he; clear H; (try clear w2); revert w3; intro w2 H; (try simp [Act.eval, List.getD, cells_iV, iL_length, setL_i, setL_ii, agg_iL, cells_rV, rL_length, setL_r, setL_rr, agg_rL] at H); (try simp [Value.cells, setL, cells_iV, iL_length, setL_i, setL_ii, agg_iL, cells_rV, rL_length, setL_r, setL_rr, agg_rL] at H)); simp only [Act.put, List.setIfInBounds_toArray, List.set_cons_succ, List.set_cons_zero, cells_iV, iL_length, setL_i, setL_ii, agg_iL, cells_rV, rL_length, setL_r, setL_rr, agg_rL]; rename Nat => nb12)) | (guard_target =~ wpTree _ _ _ (Tr.both _ _) _ _ _; refine tree_both ?_ ?_) | (guard_target =~ wpTree _ _ _ (Tr.e _ _) _ _ _; first | (refine tree_one rfl rfl (fun K hK => ?_); simp only [List.getElem_toArray, List.getElem_cons_succ, List.getElem_cons_zero]; first | ((guard_target =~ Oper.wp _ (Oper.mk _ (.store _ _ _) _ _ _ _) _ _ _ _; refine o_store (l' := ?_) (row := ?_) rfl rfl H rfl ?_ ?_ ?_ ?_ (fun w3 H2 => hK _ _ ⟨_, H2, ?_⟩ ?_); rotate_left 2; (first | exact r0 | exact r1); (focus (intro _; (simp [Act.eval, List.getD, cells_iV, iL_length, setL_i, setL_ii, agg_iL, cells_rV, rL_length, setL_r, setL_rr, agg_rL]; done))); (focus (simp [Act.eval, List.getD, cells_iV, iL_length, setL_i, setL_ii, agg_iL, cells_rV, rL_length, setL_r, setL_rr, agg_rL]; done)); (exact rfl); (guard_target =~ Suf _ _; repeat first | exact .here | apply Suf.there); clear hK K; clear H; (try clear w2); revert w3; intro w2 H; (try simp [Act.eval, List.getD, cells_iV, iL_length, setL_i, setL_ii, agg_iL, cells_rV, rL_length, setL_r, setL_rr, agg_rL] at H); (try simp [Value.cells, setL, cells_iV, iL_length, setL_i, setL_ii, agg_iL, cells_rV, rL_length, setL_r, setL_rr, agg_rL] at H)); simp only [Act.put, List.setIfInBounds_toArray, List.set_cons_succ, List.set_cons_zero, cells_iV, iL_length, setL_i, setL_ii, agg_iL, cells_rV, rL_length, setL_r, setL_rr, agg_rL]) | (go_big_op; (skip))) | (refine tree_one_skip ⟨_, H, by repeat first | exact .here | apply Suf.there⟩ rfl rfl ?_; simp only [List.getElem_toArray, List.getElem_cons_succ, List.getElem_cons_zero, Act.put, List.setIfInBounds_toArray, List.set_cons_succ, List.set_cons_zero])) | (refine tree_nil ?_; (first | replace H : Own _ _ _ (Res.cells c4 _ :: _) := H | replace H : Own _ _ _ (Res.cells c4 _ :: _) := H.front1); (first | replace H : Own _ _ _ (Res.cells nb12 _ :: _) := H.front1 | replace H : Own _ _ _ (Res.cells nb12 _ :: _) := H.front2); revert w2; revert nb12; exact key4.out) | (guard_target =~ wpTree _ _ _ Tr.nil _ _ _; refine tree_nil ?_)))
    have hr := H.loadVarN (P := Try.prog) (ty := 26) m1 (by simp) (by simp [rL_length])
    exact bodyPost_ret (v := .tuple #[rV P Q, .int .i64 U]) (by simp [results, Try.results82, asAddr, hr, agg_rL]) rfl ⟨rfl, H.below⟩
  · have hvu2 : (v && u) = false := by simpa using hvu
    rw [hvu2, if_neg (by decide), if_neg (by decide)]
    have hc : v = false ∨ (v = true ∧ u = false) := by cases v <;> simp_all
    clear hvu hvu2 hz s1 s2 s3 s4 s5
    rcases hc with rfl | ⟨rfl, rfl⟩
    all_goals
      go_enter Try.func82, Try.ntmps82
      have tk0 : True := trivial
      have tk1 : True := trivial
      have tk2 : True := trivial
      have tk3 : True := trivial
      go_wp2_with (first
        | go_big_skip
        | (go_at_call 19; (with_reducible refine (hR _).mono ?_); rintro e w3 ⟨rfl, hb⟩; replace H := H.ext hb; clear hb; dsimp only)
        | (go_at_call 19; (with_reducible refine (hS _).mono ?_); rintro e w3 ⟨rfl, hb⟩; replace H := H.ext hb; clear hb; dsimp only)
        | (guard_target =~ wpList _ _ _ (_ :: _) _ _; (first | (guard_target =~ wpList _ _ _ (Oper.mk _ (.load _ _) _ _ _ _ :: _) _ _; refine BigFrame.wpList_want rfl (fun K hK => ?_); (refine o_loadNC (row := ?_) rfl rfl H ?_ ?_ ?_ (hK _ _ ?_); rotate_left 1; (repeat first | exact .head _ | apply List.Mem.tail); (focus (intro _; simp [cells_iV, iL_length, setL_i, setL_ii, agg_iL, cells_rV, rL_length, setL_r, setL_rr, agg_rL]; done)); (focus (intro _; simp [cells_iV, iL_length, setL_i, setL_ii, agg_iL, cells_rV, rL_length, setL_r, setL_rr, agg_rL]; done))); clear hK K) | (guard_target =~ wpList _ _ _ (Oper.mk _ (.build _ _) _ _ _ _ :: _) _ _; refine BigFrame.wpList_want rfl (fun K hK => ?_); (refine o_build (v := ?_) (ps := ?_) rfl ?_ ?_ (hK _ _ ?_); rotate_left 2; (focus (simp [Act.eval]; with_reducible exact rfl)); (focus (intro w4; with_reducible exact build_r0 w4))); clear hK K) | (guard_target =~ wpList _ _ _ (Oper.mk _ (.store _ _ _) _ _ _ _ :: _) _ _; refine BigFrame.wpList_want rfl (fun K hK => ?_); refine o_store (l' := ?_) (row := ?_) rfl rfl H rfl ?_ ?_ ?_ ?_ (fun w3 H2 => hK _ _ ?_); rotate_left 2; (exact r0); (focus (intro _; (simp [Act.eval, List.getD, cells_iV, iL_length, setL_i, setL_ii, agg_iL, cells_rV, rL_length, setL_r, setL_rr, agg_rL]; done))); (focus (simp [Act.eval, List.getD, cells_iV, iL_length, setL_i, setL_ii, agg_iL, cells_rV, rL_length, setL_r, setL_rr, agg_rL]; done)); (exact rfl); clear hK K; clear H; (try clear w2); revert w3; intro w2 H; (try simp [Act.eval, List.getD, cells_iV, iL_length, setL_i, setL_ii, agg_iL, cells_rV, rL_length, setL_r, setL_rr, agg_rL] at H); (try simp [Value.cells, setL, cells_iV, iL_length, setL_i, setL_ii, agg_iL, cells_rV, rL_length, setL_r, setL_rr, agg_rL] at H)) | ((first | (guard_target =~ wpList _ _ _ (Oper.mk _ (.alloc _) _ _ _ _ :: _) _ _; refine BigFrame.wpList_want rfl (fun K hK => ?_); refine o_alloc (z := ?_) rfl ?_ H rfl (fun w3 b2 he H2 => hK _ _ ?_); rotate_left 1; (focus (intro _; simp; with_reducible exact rfl))) | (guard_target =~ wpList _ _ _ (Oper.mk _ (.box _ _) _ _ _ _ :: _) _ _; refine BigFrame.wpList_want rfl (fun K hK => ?_); refine o_box rfl H rfl (fun w3 b2 he H2 => hK _ _ ?_))); clear hK K he; clear H; (try clear w2); revert w3; intro w2 H; (try simp [Act.eval, List.getD, cells_iV, iL_length, setL_i, setL_ii, agg_iL, cells_rV, rL_length, setL_r, setL_rr, agg_rL] at H); (try simp [Value.cells, setL, cells_iV, iL_length, setL_i, setL_ii, agg_iL, cells_rV, rL_length, setL_r, setL_rr, agg_rL] at H); (first | (clear tk0; rename Nat => c1) | (clear tk1; rename Nat => c2) | (clear tk2; rename Nat => c3)))); simp only [Act.put, List.setIfInBounds_toArray, List.set_cons_succ, List.set_cons_zero, cells_iV, iL_length, setL_i, setL_ii, agg_iL, cells_rV, rL_length, setL_r, setL_rr, agg_rL]))
      have hr := H.loadVarN (P := Try.prog) (ty := 26) m0 (by simp) (by simp [rL_length])
      exact bodyPost_ret (v := .tuple #[rV 0 0, .int .i64 1]) (by simp [results, Try.results82, asAddr, hr, agg_rL]) rfl ⟨rfl, H.below⟩
theorem sumV_form (n d m e z : Int) : ∃ p q, sumV n d m e z = rV p q := by
  unfold sumV
  split
  · exact madeV_form _ _ _
  · exact ⟨_, _, rfl⟩
set_option maxRecDepth 100000 in
set_option maxHeartbeats 8000000 in
theorem ratAdd_any (n d m e : Int) (hn : R256 n) (hd : R256 d) (hm : R256 m) (he : R256 e) (w : World) :
    Calls Try.prog 50 #[rV n d, rV m e] w fun e' w' => e' = .returned (.tuple #[sumV n d m e (fitZ (n * e) + fitZ (m * d)), .int .i64 (sumU n d m e (fitZ (n * e) + fitZ (m * d)))]) ∧ Below w.heap.size w w' := by
  have H := Own.start w
  have hB := fun w => both_any 83 (.inr (.inl rfl)) n d m e hn hd hm he (fitZ (n * e) + fitZ (m * d)) (fun w => add_any _ _ (fitZ_range _) (fitZ_range _) w) w
  obtain ⟨P, Q, hV⟩ := sumV_form n d m e (fitZ (n * e) + fitZ (m * d))
  rw [hV] at hB ⊢
  clear hV
  generalize sumU n d m e (fitZ (n * e) + fitZ (m * d)) = U at *
  go_enter Try.func50, Try.ntmps50
  have tk0 : True := trivial
  have tk1 : True := trivial
  have tk2 : True := trivial
  go_wp2_with (first
    | (go_at_call 82; (with_reducible refine (hB _).mono ?_); rintro e w3 ⟨rfl, hb⟩; replace H := H.ext hb; clear hb; dsimp only)
    | (guard_target =~ wpList _ _ _ (_ :: _) _ _; (first | (guard_target =~ wpList _ _ _ (Oper.mk _ (.load _ _) _ _ _ _ :: _) _ _; refine BigFrame.wpList_want rfl (fun K hK => ?_); (refine o_loadNC (row := ?_) rfl rfl H ?_ ?_ ?_ (hK _ _ ?_); rotate_left 1; (repeat first | exact .head _ | apply List.Mem.tail); (focus (intro _; simp [cells_iV, iL_length, setL_i, setL_ii, agg_iL, cells_rV, rL_length, setL_r, setL_rr, agg_rL]; done)); (focus (intro _; simp [cells_iV, iL_length, setL_i, setL_ii, agg_iL, cells_rV, rL_length, setL_r, setL_rr, agg_rL]; done))); clear hK K) | (guard_target =~ wpList _ _ _ (Oper.mk _ (.store _ _ _) _ _ _ _ :: _) _ _; refine BigFrame.wpList_want rfl (fun K hK => ?_); refine o_store (l' := ?_) (row := ?_) rfl rfl H rfl ?_ ?_ ?_ ?_ (fun w3 H2 => hK _ _ ?_); rotate_left 2; (exact r0); (focus (intro _; (simp [Act.eval, List.getD, cells_iV, iL_length, setL_i, setL_ii, agg_iL, cells_rV, rL_length, setL_r, setL_rr, agg_rL]; done))); (focus (simp [Act.eval, List.getD, cells_iV, iL_length, setL_i, setL_ii, agg_iL, cells_rV, rL_length, setL_r, setL_rr, agg_rL]; done)); (exact rfl); clear hK K; clear H; (try clear w2); revert w3; intro w2 H; (try simp [Act.eval, List.getD, cells_iV, iL_length, setL_i, setL_ii, agg_iL, cells_rV, rL_length, setL_r, setL_rr, agg_rL] at H); (try simp [Value.cells, setL, cells_iV, iL_length, setL_i, setL_ii, agg_iL, cells_rV, rL_length, setL_r, setL_rr, agg_rL] at H)) | ((first | (guard_target =~ wpList _ _ _ (Oper.mk _ (.alloc _) _ _ _ _ :: _) _ _; refine BigFrame.wpList_want rfl (fun K hK => ?_); refine o_alloc (z := ?_) rfl ?_ H rfl (fun w3 b2 he H2 => hK _ _ ?_); rotate_left 1; (focus (intro _; simp; with_reducible exact rfl))) | (guard_target =~ wpList _ _ _ (Oper.mk _ (.box _ _) _ _ _ _ :: _) _ _; refine BigFrame.wpList_want rfl (fun K hK => ?_); refine o_box rfl H rfl (fun w3 b2 he H2 => hK _ _ ?_))); clear hK K he; clear H; (try clear w2); revert w3; intro w2 H; (try simp [Act.eval, List.getD, cells_iV, iL_length, setL_i, setL_ii, agg_iL, cells_rV, rL_length, setL_r, setL_rr, agg_rL] at H); (try simp [Value.cells, setL, cells_iV, iL_length, setL_i, setL_ii, agg_iL, cells_rV, rL_length, setL_r, setL_rr, agg_rL] at H); (first | (clear tk0; rename Nat => c1) | (clear tk1; rename Nat => c2) | (clear tk2; rename Nat => c3)))); simp only [Act.put, List.setIfInBounds_toArray, List.set_cons_succ, List.set_cons_zero, cells_iV, iL_length, setL_i, setL_ii, agg_iL, cells_rV, rL_length, setL_r, setL_rr, agg_rL]))
  have hr := H.loadVarN (P := Try.prog) (ty := 26) m0 (by simp) (by simp [rL_length])
  exact bodyPost_ret (v := .tuple #[rV P Q, .int .i64 U]) (by simp [results, Try.results50, asAddr, hr, agg_rL]) rfl ⟨rfl, H.below⟩
set_option maxRecDepth 100000 in
set_option maxHeartbeats 8000000 in
theorem ratSub_any (n d m e : Int) (hn : R256 n) (hd : R256 d) (hm : R256 m) (he : R256 e) (w : World) :
    Calls Try.prog 51 #[rV n d, rV m e] w fun e' w' => e' = .returned (.tuple #[sumV n d m e (fitZ (n * e) - fitZ (m * d)), .int .i64 (sumU n d m e (fitZ (n * e) - fitZ (m * d)))]) ∧ Below w.heap.size w w' := by
  have H := Own.start w
  have hB := fun w => both_any 66 (.inr (.inr rfl)) n d m e hn hd hm he (fitZ (n * e) - fitZ (m * d)) (fun w => sub_any _ _ (fitZ_range _) (fitZ_range _) w) w
  obtain ⟨P, Q, hV⟩ := sumV_form n d m e (fitZ (n * e) - fitZ (m * d))
  rw [hV] at hB ⊢
  clear hV
  generalize sumU n d m e (fitZ (n * e) - fitZ (m * d)) = U at *
  go_enter Try.func51, Try.ntmps51
  have tk0 : True := trivial
  have tk1 : True := trivial
  have tk2 : True := trivial
  go_wp2_with (first
    | (go_at_call 82; (with_reducible refine (hB _).mono ?_); rintro e w3 ⟨rfl, hb⟩; replace H := H.ext hb; clear hb; dsimp only)
    | (guard_target =~ wpList _ _ _ (_ :: _) _ _; (first | (guard_target =~ wpList _ _ _ (Oper.mk _ (.load _ _) _ _ _ _ :: _) _ _; refine BigFrame.wpList_want rfl (fun K hK => ?_); (refine o_loadNC (row := ?_) rfl rfl H ?_ ?_ ?_ (hK _ _ ?_); rotate_left 1; (repeat first | exact .head _ | apply List.Mem.tail); (focus (intro _; simp [cells_iV, iL_length, setL_i, setL_ii, agg_iL, cells_rV, rL_length, setL_r, setL_rr, agg_rL]; done)); (focus (intro _; simp [cells_iV, iL_length, setL_i, setL_ii, agg_iL, cells_rV, rL_length, setL_r, setL_rr, agg_rL]; done))); clear hK K) | (guard_target =~ wpList _ _ _ (Oper.mk _ (.store _ _ _) _ _ _ _ :: _) _ _; refine BigFrame.wpList_want rfl (fun K hK => ?_); refine o_store (l' := ?_) (row := ?_) rfl rfl H rfl ?_ ?_ ?_ ?_ (fun w3 H2 => hK _ _ ?_); rotate_left 2; (exact r0); (focus (intro _; (simp [Act.eval, List.getD, cells_iV, iL_length, setL_i, setL_ii, agg_iL, cells_rV, rL_length, setL_r, setL_rr, agg_rL]; done))); (focus (simp [Act.eval, List.getD, cells_iV, iL_length, setL_i, setL_ii, agg_iL, cells_rV, rL_length, setL_r, setL_rr, agg_rL]; done)); (exact rfl); clear hK K; clear H; (try clear w2); revert w3; intro w2 H; (try simp [Act.eval, List.getD, cells_iV, iL_length, setL_i, setL_ii, agg_iL, cells_rV, rL_length, setL_r, setL_rr, agg_rL] at H); (try simp [Value.cells, setL, cells_iV, iL_length, setL_i, setL_ii, agg_iL, cells_rV, rL_length, setL_r, setL_rr, agg_rL] at H)) | ((first | (guard_target =~ wpList _ _ _ (Oper.mk _ (.alloc _) _ _ _ _ :: _) _ _; refine BigFrame.wpList_want rfl (fun K hK => ?_); refine o_alloc (z := ?_) rfl ?_ H rfl (fun w3 b2 he H2 => hK _ _ ?_); rotate_left 1; (focus (intro _; simp; with_reducible exact rfl))) | (guard_target =~ wpList _ _ _ (Oper.mk _ (.box _ _) _ _ _ _ :: _) _ _; refine BigFrame.wpList_want rfl (fun K hK => ?_); refine o_box rfl H rfl (fun w3 b2 he H2 => hK _ _ ?_))); clear hK K he; clear H; (try clear w2); revert w3; intro w2 H; (try simp [Act.eval, List.getD, cells_iV, iL_length, setL_i, setL_ii, agg_iL, cells_rV, rL_length, setL_r, setL_rr, agg_rL] at H); (try simp [Value.cells, setL, cells_iV, iL_length, setL_i, setL_ii, agg_iL, cells_rV, rL_length, setL_r, setL_rr, agg_rL] at H); (first | (clear tk0; rename Nat => c1) | (clear tk1; rename Nat => c2) | (clear tk2; rename Nat => c3)))); simp only [Act.put, List.setIfInBounds_toArray, List.set_cons_succ, List.set_cons_zero, cells_iV, iL_length, setL_i, setL_ii, agg_iL, cells_rV, rL_length, setL_r, setL_rr, agg_rL]))
  have hr := H.loadVarN (P := Try.prog) (ty := 26) m0 (by simp) (by simp [rL_length])
  exact bodyPost_ret (v := .tuple #[rV P Q, .int .i64 U]) (by simp [results, Try.results51, asAddr, hr, agg_rL]) rfl ⟨rfl, H.below⟩
set_option maxRecDepth 100000 in
set_option maxHeartbeats 8000000 in
theorem ratMul_any (n d m e : Int) (hn : R256 n) (hd : R256 d) (hm : R256 m) (he : R256 e) (w : World) :
    Calls Try.prog 47 #[rV n d, rV m e] w fun e' w' => e' = .returned (.tuple #[mulV n d m e, .int .i64 (mulU n d m e)]) ∧ Below w.heap.size w w' := by
  have H := Own.start w
  have hR := fun w => Right_any n d hn hd w
  have hS := fun w => Right_any m e hm he w
  unfold mulV mulU
  have t0 : (0 : Int) = 0 ∨ (0 : Int) = 3 := .inl rfl
  have t1 := nx_03 (n * m) t0
  have t2 := nx_03 (d * e) t1
  have s1 := do_step 78 (.inl rfl) n m (n * m) 0 t0 (fun w => Mul_any n m hn hm w)
  have s2 := do_step 78 (.inl rfl) d e (d * e) _ t1 (fun w => Mul_any d e hd he w)
  have s5 := made_step (fitZ (n * m)) (fitZ (d * e)) _ (fitZ_range _) (fitZ_range _) t2
  have e5 : prodE (n * m) (d * e) = nx (nx 0 (n * m)) (d * e) := rfl
  rw [e5]
  obtain ⟨P, Q, hV⟩ := madeV_form (fitZ (n * m)) (fitZ (d * e)) (nx (nx 0 (n * m)) (d * e))
  rw [hV] at s5 ⊢
  clear e5 hV t0 t1 t2
  generalize madeE (fitZ (n * m)) (fitZ (d * e)) (nx (nx 0 (n * m)) (d * e)) = U at *
  generalize nx (nx 0 (n * m)) (d * e) = E2 at *
  generalize nx 0 (n * m) = E1 at *
  generalize fitZ (n * m) = V1 at *
  generalize fitZ (d * e) = V2 at *
  generalize rightB n d = v at *
  generalize rightB m e = u at *
  by_cases hvu : (v && u) = true
  · rw [hvu, if_pos rfl, if_pos rfl]
    obtain ⟨rfl, rfl⟩ : v = true ∧ u = true := by simpa using hvu
    clear hvu
    go_enter Try.func47, Try.ntmps47
    have tk0 : True := trivial
    have tk1 : True := trivial
    have tk2 : True := trivial
    have tk3 : True := trivial
    have tk4 : True := trivial
    go_wp2_with (first
      | (guard_target =~ Code.wp _ (Code.region 5 _ true) _ _ _; replace H := (H.front2).front2; refine region_tree 5 2 (G := True) (.q 0 (.q 1 (.q 2 (.q 3 (.q 4 (.e 5 (.e 6 (.q 7 (.q 8 (.e 9 (.q 10 .nil))))))))))) (by kernel_rfl) (by intro c a d v w h; cases d <;> exact h) (by kernel_rfl) H ⟨trivial⟩ (fun _ w3 H2 => ?_); (clear H; (try clear w2); revert w3; intro w2 H); simp only [List.drop_succ_cons, List.drop_zero])
      | (go_at_call 19; (with_reducible refine (hR _).mono ?_); rintro e w3 ⟨rfl, hb⟩; replace H := H.ext hb; clear hb; dsimp only; (skip))
      | (go_at_call 19; (with_reducible refine (hS _).mono ?_); rintro e w3 ⟨rfl, hb⟩; replace H := H.ext hb; clear hb; dsimp only; (skip))
      | (go_at_call 77; (with_reducible refine (s1 _ _ _ _ _ H).mono ?_); rintro e w3 ⟨rfl, H2⟩; replace H := H2; clear H2; dsimp only; (skip))
      | (go_at_call 77; (with_reducible refine (s2 _ _ _ _ _ H).mono ?_); rintro e w3 ⟨rfl, H2⟩; replace H := H2; clear H2; dsimp only; (refine hK _ _ ⟨_, H, by repeat first | exact .here | apply Suf.there⟩ ?_; clear hK K; (try simp only [Act.put, List.setIfInBounds_toArray, List.set_cons_succ, List.set_cons_zero, cells_iV, iL_length, setL_i, setL_ii, agg_iL, cells_rV, rL_length, setL_r, setL_rr, agg_rL])))
      | (go_at_call 79; (with_reducible refine (s5 _ _ _ _ _ H).mono ?_); rintro e w3 ⟨rfl, H2⟩; replace H := H2; clear H2; dsimp only; (refine hK _ _ ⟨_, H, by repeat first | exact .here | apply Suf.there⟩ ?_; clear hK K; (try simp only [Act.put, List.setIfInBounds_toArray, List.set_cons_succ, List.set_cons_zero, cells_iV, iL_length, setL_i, setL_ii, agg_iL, cells_rV, rL_length, setL_r, setL_rr, agg_rL])))
      | (guard_target =~ wpList _ _ _ (_ :: _) _ _; (first | (guard_target =~ wpList _ _ _ (Oper.mk _ (.load _ _) _ _ _ _ :: _) _ _; refine BigFrame.wpList_want rfl (fun K hK => ?_); (first | (refine o_loadNum (n := ?_) (d := ?_) rfl rfl H ?_ ?_ ?_ (hK _ _ ?_); rotate_left 2; (repeat first | exact .head _ | apply List.Mem.tail); (focus (intro _; simp [cells_iV, iL_length, setL_i, setL_ii, agg_iL, cells_rV, rL_length, setL_r, setL_rr, agg_rL]; done)); (focus (intro _; simp [cells_iV, iL_length, setL_i, setL_ii, agg_iL, cells_rV, rL_length, setL_r, setL_rr, agg_rL]; done))) | (refine o_loadNC (row := ?_) rfl rfl H ?_ ?_ ?_ (hK _ _ ?_); rotate_left 1; (repeat first | exact .head _ | apply List.Mem.tail); (focus (intro _; simp [cells_iV, iL_length, setL_i, setL_ii, agg_iL, cells_rV, rL_length, setL_r, setL_rr, agg_rL]; done)); (focus (intro _; simp [cells_iV, iL_length, setL_i, setL_ii, agg_iL, cells_rV, rL_length, setL_r, setL_rr, agg_rL]; done)))); clear hK K) | (guard_target =~ wpList _ _ _ (Oper.mk _ (.store _ _ _) _ _ _ _ :: _) _ _; refine BigFrame.wpList_want rfl (fun K hK => ?_); refine o_store (l' := ?_) (row := ?_) rfl rfl H rfl ?_ ?_ ?_ ?_ (fun w3 H2 => hK _ _ ?_); rotate_left 2; (exact r0); (focus (intro _; (simp [Act.eval, List.getD, cells_iV, iL_length, setL_i, setL_ii, agg_iL, cells_rV, rL_length, setL_r, setL_rr, agg_rL]; done))); (focus (simp [Act.eval, List.getD, cells_iV, iL_length, setL_i, setL_ii, agg_iL, cells_rV, rL_length, setL_r, setL_rr, agg_rL]; done)); (exact rfl); clear hK K; clear H; (try clear w2); revert w3; intro w2 H; (try simp [Act.eval, List.getD, cells_iV, iL_length, setL_i, setL_ii, agg_iL, cells_rV, rL_length, setL_r, setL_rr, agg_rL] at H); (try simp [Value.cells, setL, cells_iV, iL_length, setL_i, setL_ii, agg_iL, cells_rV, rL_length, setL_r, setL_rr, agg_rL] at H)) | ((first | (guard_target =~ wpList _ _ _ (Oper.mk _ (.alloc _) _ _ _ _ :: _) _ _; refine BigFrame.wpList_want rfl (fun K hK => ?_); refine o_alloc (z := ?_) rfl ?_ H rfl (fun w3 b2 he H2 => hK _ _ ?_); rotate_left 1; (focus (intro _; simp; with_reducible exact rfl))) | (guard_target =~ wpList _ _ _ (Oper.mk _ (.box _ _) _ _ _ _ :: _) _ _; refine BigFrame.wpList_want rfl (fun K hK => ?_); refine o_box rfl H rfl (fun w3 b2 he H2 => hK _ _ ?_))); clear hK K he; clear H; (try clear w2); revert w3; intro w2 H; (try simp [Act.eval, List.getD, cells_iV, iL_length, setL_i, setL_ii, agg_iL, cells_rV, rL_length, setL_r, setL_rr, agg_rL] at H); (try simp [Value.cells, setL, cells_iV, iL_length, setL_i, setL_ii, agg_iL, cells_rV, rL_length, setL_r, setL_rr, agg_rL] at H); (first | (clear tk0; rename Nat => c1) | (clear tk1; rename Nat => c2) | (clear tk2; rename Nat => c3) | (clear tk3; rename Nat => c4) | (clear tk4; rename Nat => c5)))); simp only [Act.put, List.setIfInBounds_toArray, List.set_cons_succ, List.set_cons_zero, cells_iV, iL_length, setL_i, setL_ii, agg_iL, cells_rV, rL_length, setL_r, setL_rr, agg_rL])
      | (guard_target =~ wpTree _ _ _ _ _ _ _; first | (guard_target =~ wpTree _ _ _ (Tr.q _ _) _ _ _; first | (refine tree_quiet ⟨_, H, by repeat first | exact .here | apply Suf.there⟩ rfl rfl rfl (fun K hK => ?_); simp only [List.getElem_toArray, List.getElem_cons_succ, List.getElem_cons_zero]; first | (guard_target =~ Oper.quiet _ (Oper.mk _ (.build _ _) _ _ _ _) _ _ _; (first | fail); clear hK K; simp only [Act.put, List.setIfInBounds_toArray, List.set_cons_succ, List.set_cons_zero, cells_iV, iL_length, setL_i, setL_ii, agg_iL, cells_rV, rL_length, setL_r, setL_rr, agg_rL]) | (guard_target =~ Oper.quiet _ (Oper.mk _ (.load _ _) _ _ _ _) _ _ _; (first | (refine q_loadDen (n := ?_) (d := ?_) rfl rfl ?_ ?_ ?_ (hK _ ?_); rotate_left 2; (repeat first | exact .head _ | apply List.Mem.tail); (focus (intro _; simp [cells_iV, iL_length, setL_i, setL_ii, agg_iL, cells_rV, rL_length, setL_r, setL_rr, agg_rL]; done)); (focus (intro _; simp [cells_iV, iL_length, setL_i, setL_ii, agg_iL, cells_rV, rL_length, setL_r, setL_rr, agg_rL]; done))) | (refine q_loadNC (row := ?_) rfl rfl ?_ ?_ ?_ (hK _ ?_); rotate_left 1; (repeat first | exact .head _ | apply List.Mem.tail); (focus (intro _; simp [cells_iV, iL_length, setL_i, setL_ii, agg_iL, cells_rV, rL_length, setL_r, setL_rr, agg_rL]; done)); (focus (intro _; simp [cells_iV, iL_length, setL_i, setL_ii, agg_iL, cells_rV, rL_length, setL_r, setL_rr, agg_rL]; done)))); clear hK K; simp only [Act.put, List.setIfInBounds_toArray, List.set_cons_succ, List.set_cons_zero, cells_iV, iL_length, setL_i, setL_ii, agg_iL, cells_rV, rL_length, setL_r, setL_rr, agg_rL]) | (go_big_quiet_op; (try refine ⟨_, fun _ _ => rfl, ?_⟩); refine hK _ ?_; clear hK K)) | (refine tree_skip ⟨_, H, by repeat first | exact .here | apply Suf.there⟩ rfl rfl ?_; simp only [List.getElem_toArray, List.getElem_cons_succ, List.getElem_cons_zero, Act.put, List.setIfInBounds_toArray, List.set_cons_succ, List.set_cons_zero])) | (guard_target =~ wpTree _ _ _ (Tr.both _ _) _ _ _; refine tree_both ?_ ?_) | (guard_target =~ wpTree _ _ _ (Tr.e _ _) _ _ _; first | (refine tree_one rfl rfl (fun K hK => ?_); simp only [List.getElem_toArray, List.getElem_cons_succ, List.getElem_cons_zero]; first | ((guard_target =~ Oper.wp _ (Oper.mk _ (.store _ _ _) _ _ _ _) _ _ _ _; refine o_store (l' := ?_) (row := ?_) rfl rfl H rfl ?_ ?_ ?_ ?_ (fun w3 H2 => hK _ _ ⟨_, H2, ?_⟩ ?_); rotate_left 2; (exact r1); (focus (intro _; (simp [Act.eval, List.getD, cells_iV, iL_length, setL_i, setL_ii, agg_iL, cells_rV, rL_length, setL_r, setL_rr, agg_rL]; done))); (focus (simp [Act.eval, List.getD, cells_iV, iL_length, setL_i, setL_ii, agg_iL, cells_rV, rL_length, setL_r, setL_rr, agg_rL]; done)); (exact rfl); (guard_target =~ Suf _ _; repeat first | exact .here | apply Suf.there); clear hK K; clear H; (try clear w2); revert w3; intro w2 H; (try simp [Act.eval, List.getD, cells_iV, iL_length, setL_i, setL_ii, agg_iL, cells_rV, rL_length, setL_r, setL_rr, agg_rL] at H); (try simp [Value.cells, setL, cells_iV, iL_length, setL_i, setL_ii, agg_iL, cells_rV, rL_length, setL_r, setL_rr, agg_rL] at H)); simp only [Act.put, List.setIfInBounds_toArray, List.set_cons_succ, List.set_cons_zero, cells_iV, iL_length, setL_i, setL_ii, agg_iL, cells_rV, rL_length, setL_r, setL_rr, agg_rL]) | (go_big_op; (skip))) | (refine tree_one_skip ⟨_, H, by repeat first | exact .here | apply Suf.there⟩ rfl rfl ?_; simp only [List.getElem_toArray, List.getElem_cons_succ, List.getElem_cons_zero, Act.put, List.setIfInBounds_toArray, List.set_cons_succ, List.set_cons_zero])) | (guard_target =~ wpTree _ _ _ Tr.nil _ _ _; refine tree_nil ?_)))
    have hr := H.loadVarN (P := Try.prog) (ty := 26) m1 (by simp) (by simp [rL_length])
    exact bodyPost_ret (v := .tuple #[rV P Q, .int .i64 U]) (by simp [results, Try.results47, asAddr, hr, agg_rL]) rfl ⟨rfl, H.below⟩
  · have hvu2 : (v && u) = false := by simpa using hvu
    rw [hvu2, if_neg (by decide), if_neg (by decide)]
    have hc : v = false ∨ (v = true ∧ u = false) := by cases v <;> simp_all
    clear hvu hvu2 s1 s2 s5
    rcases hc with rfl | ⟨rfl, rfl⟩
    all_goals
      go_enter Try.func47, Try.ntmps47
      have tk0 : True := trivial
      have tk1 : True := trivial
      have tk2 : True := trivial
      have tk3 : True := trivial
      go_wp2_with (first
        | go_big_skip
        | (go_at_call 19; (with_reducible refine (hR _).mono ?_); rintro e w3 ⟨rfl, hb⟩; replace H := H.ext hb; clear hb; dsimp only)
        | (go_at_call 19; (with_reducible refine (hS _).mono ?_); rintro e w3 ⟨rfl, hb⟩; replace H := H.ext hb; clear hb; dsimp only)
        | (guard_target =~ wpList _ _ _ (_ :: _) _ _; (first | (guard_target =~ wpList _ _ _ (Oper.mk _ (.load _ _) _ _ _ _ :: _) _ _; refine BigFrame.wpList_want rfl (fun K hK => ?_); (refine o_loadNC (row := ?_) rfl rfl H ?_ ?_ ?_ (hK _ _ ?_); rotate_left 1; (repeat first | exact .head _ | apply List.Mem.tail); (focus (intro _; simp [cells_iV, iL_length, setL_i, setL_ii, agg_iL, cells_rV, rL_length, setL_r, setL_rr, agg_rL]; done)); (focus (intro _; simp [cells_iV, iL_length, setL_i, setL_ii, agg_iL, cells_rV, rL_length, setL_r, setL_rr, agg_rL]; done))); clear hK K) | (guard_target =~ wpList _ _ _ (Oper.mk _ (.build _ _) _ _ _ _ :: _) _ _; refine BigFrame.wpList_want rfl (fun K hK => ?_); (refine o_build (v := ?_) (ps := ?_) rfl ?_ ?_ (hK _ _ ?_); rotate_left 2; (focus (simp [Act.eval]; with_reducible exact rfl)); (focus (intro w4; with_reducible exact build_r0 w4))); clear hK K) | (guard_target =~ wpList _ _ _ (Oper.mk _ (.store _ _ _) _ _ _ _ :: _) _ _; refine BigFrame.wpList_want rfl (fun K hK => ?_); refine o_store (l' := ?_) (row := ?_) rfl rfl H rfl ?_ ?_ ?_ ?_ (fun w3 H2 => hK _ _ ?_); rotate_left 2; (exact r0); (focus (intro _; (simp [Act.eval, List.getD, cells_iV, iL_length, setL_i, setL_ii, agg_iL, cells_rV, rL_length, setL_r, setL_rr, agg_rL]; done))); (focus (simp [Act.eval, List.getD, cells_iV, iL_length, setL_i, setL_ii, agg_iL, cells_rV, rL_length, setL_r, setL_rr, agg_rL]; done)); (exact rfl); clear hK K; clear H; (try clear w2); revert w3; intro w2 H; (try simp [Act.eval, List.getD, cells_iV, iL_length, setL_i, setL_ii, agg_iL, cells_rV, rL_length, setL_r, setL_rr, agg_rL] at H); (try simp [Value.cells, setL, cells_iV, iL_length, setL_i, setL_ii, agg_iL, cells_rV, rL_length, setL_r, setL_rr, agg_rL] at H)) | ((first | (guard_target =~ wpList _ _ _ (Oper.mk _ (.alloc _) _ _ _ _ :: _) _ _; refine BigFrame.wpList_want rfl (fun K hK => ?_); refine o_alloc (z := ?_) rfl ?_ H rfl (fun w3 b2 he H2 => hK _ _ ?_); rotate_left 1; (focus (intro _; simp; with_reducible exact rfl))) | (guard_target =~ wpList _ _ _ (Oper.mk _ (.box _ _) _ _ _ _ :: _) _ _; refine BigFrame.wpList_want rfl (fun K hK => ?_); refine o_box rfl H rfl (fun w3 b2 he H2 => hK _ _ ?_))); clear hK K he; clear H; (try clear w2); revert w3; intro w2 H; (try simp [Act.eval, List.getD, cells_iV, iL_length, setL_i, setL_ii, agg_iL, cells_rV, rL_length, setL_r, setL_rr, agg_rL] at H); (try simp [Value.cells, setL, cells_iV, iL_length, setL_i, setL_ii, agg_iL, cells_rV, rL_length, setL_r, setL_rr, agg_rL] at H); (first | (clear tk0; rename Nat => c1) | (clear tk1; rename Nat => c2) | (clear tk2; rename Nat => c3)))); simp only [Act.put, List.setIfInBounds_toArray, List.set_cons_succ, List.set_cons_zero, cells_iV, iL_length, setL_i, setL_ii, agg_iL, cells_rV, rL_length, setL_r, setL_rr, agg_rL]))
      have hr := H.loadVarN (P := Try.prog) (ty := 26) m0 (by simp) (by simp [rL_length])
      exact bodyPost_ret (v := .tuple #[rV 0 0, .int .i64 1]) (by simp [results, Try.results47, asAddr, hr, agg_rL]) rfl ⟨rfl, H.below⟩
set_option maxRecDepth 100000 in
set_option maxHeartbeats 8000000 in
theorem ratDiv_any (n d m e : Int) (hn : R256 n) (hd : R256 d) (hm : R256 m) (he : R256 e) (w : World) :
    Calls Try.prog 48 #[rV n d, rV m e] w fun e' w' => e' = .returned (.tuple #[divV n d m e, .int .i64 (divU n d m e)]) ∧ Below w.heap.size w w' := by
  have H := Own.start w
  have hR := fun w => Right_any n d hn hd w
  have hS := fun w => Right_any m e hm he w
  have hq := eq_iV m 0 hm r256_0
  have g1 := guard_iV
  rw [iV_zero] at hq
  unfold divV divU
  have t0 : (0 : Int) = 0 ∨ (0 : Int) = 3 := .inl rfl
  have t1 := nx_03 (n * e) t0
  have t2 := nx_03 (d * m) t1
  have s1 := do_step 78 (.inl rfl) n e (n * e) 0 t0 (fun w => Mul_any n e hn he w)
  have s2 := do_step 78 (.inl rfl) d m (d * m) _ t1 (fun w => Mul_any d m hd hm w)
  have s5 := made_step (fitZ (n * e)) (fitZ (d * m)) _ (fitZ_range _) (fitZ_range _) t2
  have e5 : prodE (n * e) (d * m) = nx (nx 0 (n * e)) (d * m) := rfl
  rw [e5]
  obtain ⟨P, Q, hV⟩ := madeV_form (fitZ (n * e)) (fitZ (d * m)) (nx (nx 0 (n * e)) (d * m))
  rw [hV] at s5 ⊢
  clear e5 hV t0 t1 t2
  generalize madeE (fitZ (n * e)) (fitZ (d * m)) (nx (nx 0 (n * e)) (d * m)) = U at *
  generalize nx (nx 0 (n * e)) (d * m) = E2 at *
  generalize nx 0 (n * e) = E1 at *
  generalize fitZ (n * e) = V1 at *
  generalize fitZ (d * m) = V2 at *
  generalize rightB n d = v at *
  generalize rightB m e = u at *
  by_cases hvu : (v && u) = true
  · rw [hvu, if_pos rfl, if_pos rfl]
    obtain ⟨rfl, rfl⟩ : v = true ∧ u = true := by simpa using hvu
    clear hvu
    by_cases h0 : m = 0
    · rw [if_pos h0, if_pos h0]
      rw [show decide (m = 0) = true by simpa using h0] at hq
      clear h0 s1 s2 s5
      go_enter Try.func48, Try.ntmps48
      have tk0 : True := trivial
      have tk1 : True := trivial
      have tk2 : True := trivial
      have tk3 : True := trivial
      have tk4 : True := trivial
      go_wp2_with (first
        | (go_at_call 19; (with_reducible refine (hR _).mono ?_); rintro e w3 ⟨rfl, hb⟩; replace H := H.ext hb; clear hb; dsimp only)
        | (go_at_call 19; (with_reducible refine (hS _).mono ?_); rintro e w3 ⟨rfl, hb⟩; replace H := H.ext hb; clear hb; dsimp only)
        | (guard_target =~ wpList _ _ _ (_ :: _) _ _; (first | (guard_target =~ wpList _ _ _ (Oper.mk _ (.load _ _) _ _ _ _ :: _) _ _; refine BigFrame.wpList_want rfl (fun K hK => ?_); (first | (refine o_loadNum (n := ?_) (d := ?_) rfl rfl H ?_ ?_ ?_ (hK _ _ ?_); rotate_left 2; (repeat first | exact .head _ | apply List.Mem.tail); (focus (intro _; simp [cells_iV, iL_length, setL_i, setL_ii, agg_iL, cells_rV, rL_length, setL_r, setL_rr, agg_rL]; done)); (focus (intro _; simp [cells_iV, iL_length, setL_i, setL_ii, agg_iL, cells_rV, rL_length, setL_r, setL_rr, agg_rL]; done))) | (refine o_loadNC (row := ?_) rfl rfl H ?_ ?_ ?_ (hK _ _ ?_); rotate_left 1; (repeat first | exact .head _ | apply List.Mem.tail); (focus (intro _; simp [cells_iV, iL_length, setL_i, setL_ii, agg_iL, cells_rV, rL_length, setL_r, setL_rr, agg_rL]; done)); (focus (intro _; simp [cells_iV, iL_length, setL_i, setL_ii, agg_iL, cells_rV, rL_length, setL_r, setL_rr, agg_rL]; done)))); clear hK K) | (guard_target =~ wpList _ _ _ (Oper.mk _ (.build _ _) _ _ _ _ :: _) _ _; refine BigFrame.wpList_want rfl (fun K hK => ?_); (refine o_build (v := ?_) (ps := ?_) rfl ?_ ?_ (hK _ _ ?_); rotate_left 2; (focus (simp [Act.eval]; with_reducible exact rfl)); (focus (intro w4; with_reducible exact build_r0 w4))); clear hK K) | (guard_target =~ wpList _ _ _ (Oper.mk _ (.store _ _ _) _ _ _ _ :: _) _ _; refine BigFrame.wpList_want rfl (fun K hK => ?_); refine o_store (l' := ?_) (row := ?_) rfl rfl H rfl ?_ ?_ ?_ ?_ (fun w3 H2 => hK _ _ ?_); rotate_left 2; (exact r0); (focus (intro _; (simp [Act.eval, List.getD, cells_iV, iL_length, setL_i, setL_ii, agg_iL, cells_rV, rL_length, setL_r, setL_rr, agg_rL]; done))); (focus (simp [Act.eval, List.getD, cells_iV, iL_length, setL_i, setL_ii, agg_iL, cells_rV, rL_length, setL_r, setL_rr, agg_rL]; done)); (exact rfl); clear hK K; clear H; (try clear w2); revert w3; intro w2 H; (try simp [Act.eval, List.getD, cells_iV, iL_length, setL_i, setL_ii, agg_iL, cells_rV, rL_length, setL_r, setL_rr, agg_rL] at H); (try simp [Value.cells, setL, cells_iV, iL_length, setL_i, setL_ii, agg_iL, cells_rV, rL_length, setL_r, setL_rr, agg_rL] at H)) | ((first | (guard_target =~ wpList _ _ _ (Oper.mk _ (.alloc _) _ _ _ _ :: _) _ _; refine BigFrame.wpList_want rfl (fun K hK => ?_); refine o_alloc (z := ?_) rfl ?_ H rfl (fun w3 b2 he H2 => hK _ _ ?_); rotate_left 1; (focus (intro _; simp; with_reducible exact rfl))) | (guard_target =~ wpList _ _ _ (Oper.mk _ (.box _ _) _ _ _ _ :: _) _ _; refine BigFrame.wpList_want rfl (fun K hK => ?_); refine o_box rfl H rfl (fun w3 b2 he H2 => hK _ _ ?_))); clear hK K he; clear H; (try clear w2); revert w3; intro w2 H; (try simp [Act.eval, List.getD, cells_iV, iL_length, setL_i, setL_ii, agg_iL, cells_rV, rL_length, setL_r, setL_rr, agg_rL] at H); (try simp [Value.cells, setL, cells_iV, iL_length, setL_i, setL_ii, agg_iL, cells_rV, rL_length, setL_r, setL_rr, agg_rL] at H); (first | (clear tk0; rename Nat => c1) | (clear tk1; rename Nat => c2) | (clear tk2; rename Nat => c3)))); simp only [Act.put, List.setIfInBounds_toArray, List.set_cons_succ, List.set_cons_zero, cells_iV, iL_length, setL_i, setL_ii, agg_iL, cells_rV, rL_length, setL_r, setL_rr, agg_rL]))
      have hr := H.loadVarN (P := Try.prog) (ty := 26) m0 (by simp) (by simp [rL_length])
      exact bodyPost_ret (v := .tuple #[rV 0 0, .int .i64 4]) (by simp [results, Try.results48, asAddr, hr, agg_rL]) rfl ⟨rfl, H.below⟩
    · rw [if_neg h0, if_neg h0]
      rw [show decide (m = 0) = false by simpa using h0] at hq
      clear h0
      go_enter Try.func48, Try.ntmps48
      have tk0 : True := trivial
      have tk1 : True := trivial
      have tk2 : True := trivial
      have tk3 : True := trivial
      have tk4 : True := trivial
      go_wp2_with (first
        | (guard_target =~ Code.wp _ (Code.region 7 _ true) _ _ _; replace H := (H.front2).front2; refine region_tree 7 2 (G := True) (.q 0 (.q 1 (.q 2 (.q 3 (.q 4 (.e 5 (.e 6 (.q 7 (.q 8 (.e 9 (.q 10 .nil))))))))))) (by kernel_rfl) (by intro c a d v w h; cases d <;> exact h) (by kernel_rfl) H ⟨trivial⟩ (fun _ w3 H2 => ?_); (clear H; (try clear w2); revert w3; intro w2 H); simp only [List.drop_succ_cons, List.drop_zero])
        | (go_at_call 19; (with_reducible refine (hR _).mono ?_); rintro e w3 ⟨rfl, hb⟩; replace H := H.ext hb; clear hb; dsimp only; (skip))
        | (go_at_call 19; (with_reducible refine (hS _).mono ?_); rintro e w3 ⟨rfl, hb⟩; replace H := H.ext hb; clear hb; dsimp only; (skip))
        | (go_at_call 77; (with_reducible refine (s1 _ _ _ _ _ H).mono ?_); rintro e w3 ⟨rfl, H2⟩; replace H := H2; clear H2; dsimp only; (skip))
        | (go_at_call 77; (with_reducible refine (s2 _ _ _ _ _ H).mono ?_); rintro e w3 ⟨rfl, H2⟩; replace H := H2; clear H2; dsimp only; (refine hK _ _ ⟨_, H, by repeat first | exact .here | apply Suf.there⟩ ?_; clear hK K; (try simp only [Act.put, List.setIfInBounds_toArray, List.set_cons_succ, List.set_cons_zero, cells_iV, iL_length, setL_i, setL_ii, agg_iL, cells_rV, rL_length, setL_r, setL_rr, agg_rL])))
        | (go_at_call 79; (with_reducible refine (s5 _ _ _ _ _ H).mono ?_); rintro e w3 ⟨rfl, H2⟩; replace H := H2; clear H2; dsimp only; (refine hK _ _ ⟨_, H, by repeat first | exact .here | apply Suf.there⟩ ?_; clear hK K; (try simp only [Act.put, List.setIfInBounds_toArray, List.set_cons_succ, List.set_cons_zero, cells_iV, iL_length, setL_i, setL_ii, agg_iL, cells_rV, rL_length, setL_r, setL_rr, agg_rL])))
        | (guard_target =~ wpList _ _ _ (_ :: _) _ _; (first | (guard_target =~ wpList _ _ _ (Oper.mk _ (.load _ _) _ _ _ _ :: _) _ _; refine BigFrame.wpList_want rfl (fun K hK => ?_); (first | (refine o_loadNum (n := ?_) (d := ?_) rfl rfl H ?_ ?_ ?_ (hK _ _ ?_); rotate_left 2; (repeat first | exact .head _ | apply List.Mem.tail); (focus (intro _; simp [cells_iV, iL_length, setL_i, setL_ii, agg_iL, cells_rV, rL_length, setL_r, setL_rr, agg_rL]; done)); (focus (intro _; simp [cells_iV, iL_length, setL_i, setL_ii, agg_iL, cells_rV, rL_length, setL_r, setL_rr, agg_rL]; done))) | (refine o_loadDen (n := ?_) (d := ?_) rfl rfl H ?_ ?_ ?_ (hK _ _ ?_); rotate_left 2; (repeat first | exact .head _ | apply List.Mem.tail); (focus (intro _; simp [cells_iV, iL_length, setL_i, setL_ii, agg_iL, cells_rV, rL_length, setL_r, setL_rr, agg_rL]; done)); (focus (intro _; simp [cells_iV, iL_length, setL_i, setL_ii, agg_iL, cells_rV, rL_length, setL_r, setL_rr, agg_rL]; done))) | (refine o_loadNC (row := ?_) rfl rfl H ?_ ?_ ?_ (hK _ _ ?_); rotate_left 1; (repeat first | exact .head _ | apply List.Mem.tail); (focus (intro _; simp [cells_iV, iL_length, setL_i, setL_ii, agg_iL, cells_rV, rL_length, setL_r, setL_rr, agg_rL]; done)); (focus (intro _; simp [cells_iV, iL_length, setL_i, setL_ii, agg_iL, cells_rV, rL_length, setL_r, setL_rr, agg_rL]; done)))); clear hK K) | (guard_target =~ wpList _ _ _ (Oper.mk _ (.store _ _ _) _ _ _ _ :: _) _ _; refine BigFrame.wpList_want rfl (fun K hK => ?_); refine o_store (l' := ?_) (row := ?_) rfl rfl H rfl ?_ ?_ ?_ ?_ (fun w3 H2 => hK _ _ ?_); rotate_left 2; (exact r0); (focus (intro _; (simp [Act.eval, List.getD, cells_iV, iL_length, setL_i, setL_ii, agg_iL, cells_rV, rL_length, setL_r, setL_rr, agg_rL]; done))); (focus (simp [Act.eval, List.getD, cells_iV, iL_length, setL_i, setL_ii, agg_iL, cells_rV, rL_length, setL_r, setL_rr, agg_rL]; done)); (exact rfl); clear hK K; clear H; (try clear w2); revert w3; intro w2 H; (try simp [Act.eval, List.getD, cells_iV, iL_length, setL_i, setL_ii, agg_iL, cells_rV, rL_length, setL_r, setL_rr, agg_rL] at H); (try simp [Value.cells, setL, cells_iV, iL_length, setL_i, setL_ii, agg_iL, cells_rV, rL_length, setL_r, setL_rr, agg_rL] at H)) | ((first | (guard_target =~ wpList _ _ _ (Oper.mk _ (.alloc _) _ _ _ _ :: _) _ _; refine BigFrame.wpList_want rfl (fun K hK => ?_); refine o_alloc (z := ?_) rfl ?_ H rfl (fun w3 b2 he H2 => hK _ _ ?_); rotate_left 1; (focus (intro _; simp; with_reducible exact rfl))) | (guard_target =~ wpList _ _ _ (Oper.mk _ (.box _ _) _ _ _ _ :: _) _ _; refine BigFrame.wpList_want rfl (fun K hK => ?_); refine o_box rfl H rfl (fun w3 b2 he H2 => hK _ _ ?_))); clear hK K he; clear H; (try clear w2); revert w3; intro w2 H; (try simp [Act.eval, List.getD, cells_iV, iL_length, setL_i, setL_ii, agg_iL, cells_rV, rL_length, setL_r, setL_rr, agg_rL] at H); (try simp [Value.cells, setL, cells_iV, iL_length, setL_i, setL_ii, agg_iL, cells_rV, rL_length, setL_r, setL_rr, agg_rL] at H); (first | (clear tk0; rename Nat => c1) | (clear tk1; rename Nat => c2) | (clear tk2; rename Nat => c3) | (clear tk3; rename Nat => c4) | (clear tk4; rename Nat => c5)))); simp only [Act.put, List.setIfInBounds_toArray, List.set_cons_succ, List.set_cons_zero, cells_iV, iL_length, setL_i, setL_ii, agg_iL, cells_rV, rL_length, setL_r, setL_rr, agg_rL])
        | (guard_target =~ wpTree _ _ _ _ _ _ _; first | (guard_target =~ wpTree _ _ _ (Tr.q _ _) _ _ _; first | (refine tree_quiet ⟨_, H, by repeat first | exact .here | apply Suf.there⟩ rfl rfl rfl (fun K hK => ?_); simp only [List.getElem_toArray, List.getElem_cons_succ, List.getElem_cons_zero]; first | (guard_target =~ Oper.quiet _ (Oper.mk _ (.build _ _) _ _ _ _) _ _ _; (first | fail); clear hK K; simp only [Act.put, List.setIfInBounds_toArray, List.set_cons_succ, List.set_cons_zero, cells_iV, iL_length, setL_i, setL_ii, agg_iL, cells_rV, rL_length, setL_r, setL_rr, agg_rL]) | (guard_target =~ Oper.quiet _ (Oper.mk _ (.load _ _) _ _ _ _) _ _ _; (first | (refine q_loadNum (n := ?_) (d := ?_) rfl rfl ?_ ?_ ?_ (hK _ ?_); rotate_left 2; (repeat first | exact .head _ | apply List.Mem.tail); (focus (intro _; simp [cells_iV, iL_length, setL_i, setL_ii, agg_iL, cells_rV, rL_length, setL_r, setL_rr, agg_rL]; done)); (focus (intro _; simp [cells_iV, iL_length, setL_i, setL_ii, agg_iL, cells_rV, rL_length, setL_r, setL_rr, agg_rL]; done))) | (refine q_loadDen (n := ?_) (d := ?_) rfl rfl ?_ ?_ ?_ (hK _ ?_); rotate_left 2; (repeat first | exact .head _ | apply List.Mem.tail); (focus (intro _; simp [cells_iV, iL_length, setL_i, setL_ii, agg_iL, cells_rV, rL_length, setL_r, setL_rr, agg_rL]; done)); (focus (intro _; simp [cells_iV, iL_length, setL_i, setL_ii, agg_iL, cells_rV, rL_length, setL_r, setL_rr, agg_rL]; done))) | (refine q_loadNC (row := ?_) rfl rfl ?_ ?_ ?_ (hK _ ?_); rotate_left 1; (repeat first | exact .head _ | apply List.Mem.tail); (focus (intro _; simp [cells_iV, iL_length, setL_i, setL_ii, agg_iL, cells_rV, rL_length, setL_r, setL_rr, agg_rL]; done)); (focus (intro _; simp [cells_iV, iL_length, setL_i, setL_ii, agg_iL, cells_rV, rL_length, setL_r, setL_rr, agg_rL]; done)))); clear hK K; simp only [Act.put, List.setIfInBounds_toArray, List.set_cons_succ, List.set_cons_zero, cells_iV, iL_length, setL_i, setL_ii, agg_iL, cells_rV, rL_length, setL_r, setL_rr, agg_rL]) | (go_big_quiet_op; (try refine ⟨_, fun _ _ => rfl, ?_⟩); refine hK _ ?_; clear hK K)) | (refine tree_skip ⟨_, H, by repeat first | exact .here | apply Suf.there⟩ rfl rfl ?_; simp only [List.getElem_toArray, List.getElem_cons_succ, List.getElem_cons_zero, Act.put, List.setIfInBounds_toArray, List.set_cons_succ, List.set_cons_zero])) | (guard_target =~ wpTree _ _ _ (Tr.both _ _) _ _ _; refine tree_both ?_ ?_) | (guard_target =~ wpTree _ _ _ (Tr.e _ _) _ _ _; first | (refine tree_one rfl rfl (fun K hK => ?_); simp only [List.getElem_toArray, List.getElem_cons_succ, List.getElem_cons_zero]; first | ((guard_target =~ Oper.wp _ (Oper.mk _ (.store _ _ _) _ _ _ _) _ _ _ _; refine o_store (l' := ?_) (row := ?_) rfl rfl H rfl ?_ ?_ ?_ ?_ (fun w3 H2 => hK _ _ ⟨_, H2, ?_⟩ ?_); rotate_left 2; (exact r1); (focus (intro _; (simp [Act.eval, List.getD, cells_iV, iL_length, setL_i, setL_ii, agg_iL, cells_rV, rL_length, setL_r, setL_rr, agg_rL]; done))); (focus (simp [Act.eval, List.getD, cells_iV, iL_length, setL_i, setL_ii, agg_iL, cells_rV, rL_length, setL_r, setL_rr, agg_rL]; done)); (exact rfl); (guard_target =~ Suf _ _; repeat first | exact .here | apply Suf.there); clear hK K; clear H; (try clear w2); revert w3; intro w2 H; (try simp [Act.eval, List.getD, cells_iV, iL_length, setL_i, setL_ii, agg_iL, cells_rV, rL_length, setL_r, setL_rr, agg_rL] at H); (try simp [Value.cells, setL, cells_iV, iL_length, setL_i, setL_ii, agg_iL, cells_rV, rL_length, setL_r, setL_rr, agg_rL] at H)); simp only [Act.put, List.setIfInBounds_toArray, List.set_cons_succ, List.set_cons_zero, cells_iV, iL_length, setL_i, setL_ii, agg_iL, cells_rV, rL_length, setL_r, setL_rr, agg_rL]) | (go_big_op; (skip))) | (refine tree_one_skip ⟨_, H, by repeat first | exact .here | apply Suf.there⟩ rfl rfl ?_; simp only [List.getElem_toArray, List.getElem_cons_succ, List.getElem_cons_zero, Act.put, List.setIfInBounds_toArray, List.set_cons_succ, List.set_cons_zero])) | (guard_target =~ wpTree _ _ _ Tr.nil _ _ _; refine tree_nil ?_)))
      have hr := H.loadVarN (P := Try.prog) (ty := 26) m1 (by simp) (by simp [rL_length])
      exact bodyPost_ret (v := .tuple #[rV P Q, .int .i64 U]) (by simp [results, Try.results48, asAddr, hr, agg_rL]) rfl ⟨rfl, H.below⟩
  · have hvu2 : (v && u) = false := by simpa using hvu
    rw [hvu2, if_neg (by decide), if_neg (by decide)]
    have hc : v = false ∨ (v = true ∧ u = false) := by cases v <;> simp_all
    clear hvu hvu2 s1 s2 s5 hq
    rcases hc with rfl | ⟨rfl, rfl⟩
    all_goals
      go_enter Try.func48, Try.ntmps48
      have tk0 : True := trivial
      have tk1 : True := trivial
      have tk2 : True := trivial
      have tk3 : True := trivial
      go_wp2_with (first
        | go_big_skip
        | (go_at_call 19; (with_reducible refine (hR _).mono ?_); rintro e w3 ⟨rfl, hb⟩; replace H := H.ext hb; clear hb; dsimp only)
        | (go_at_call 19; (with_reducible refine (hS _).mono ?_); rintro e w3 ⟨rfl, hb⟩; replace H := H.ext hb; clear hb; dsimp only)
        | (guard_target =~ wpList _ _ _ (_ :: _) _ _; (first | (guard_target =~ wpList _ _ _ (Oper.mk _ (.load _ _) _ _ _ _ :: _) _ _; refine BigFrame.wpList_want rfl (fun K hK => ?_); (refine o_loadNC (row := ?_) rfl rfl H ?_ ?_ ?_ (hK _ _ ?_); rotate_left 1; (repeat first | exact .head _ | apply List.Mem.tail); (focus (intro _; simp [cells_iV, iL_length, setL_i, setL_ii, agg_iL, cells_rV, rL_length, setL_r, setL_rr, agg_rL]; done)); (focus (intro _; simp [cells_iV, iL_length, setL_i, setL_ii, agg_iL, cells_rV, rL_length, setL_r, setL_rr, agg_rL]; done))); clear hK K) | (guard_target =~ wpList _ _ _ (Oper.mk _ (.build _ _) _ _ _ _ :: _) _ _; refine BigFrame.wpList_want rfl (fun K hK => ?_); (refine o_build (v := ?_) (ps := ?_) rfl ?_ ?_ (hK _ _ ?_); rotate_left 2; (focus (simp [Act.eval]; with_reducible exact rfl)); (focus (intro w4; with_reducible exact build_r0 w4))); clear hK K) | (guard_target =~ wpList _ _ _ (Oper.mk _ (.store _ _ _) _ _ _ _ :: _) _ _; refine BigFrame.wpList_want rfl (fun K hK => ?_); refine o_store (l' := ?_) (row := ?_) rfl rfl H rfl ?_ ?_ ?_ ?_ (fun w3 H2 => hK _ _ ?_); rotate_left 2; (exact r0); (focus (intro _; (simp [Act.eval, List.getD, cells_iV, iL_length, setL_i, setL_ii, agg_iL, cells_rV, rL_length, setL_r, setL_rr, agg_rL]; done))); (focus (simp [Act.eval, List.getD, cells_iV, iL_length, setL_i, setL_ii, agg_iL, cells_rV, rL_length, setL_r, setL_rr, agg_rL]; done)); (exact rfl); clear hK K; clear H; (try clear w2); revert w3; intro w2 H; (try simp [Act.eval, List.getD, cells_iV, iL_length, setL_i, setL_ii, agg_iL, cells_rV, rL_length, setL_r, setL_rr, agg_rL] at H); (try simp [Value.cells, setL, cells_iV, iL_length, setL_i, setL_ii, agg_iL, cells_rV, rL_length, setL_r, setL_rr, agg_rL] at H)) | ((first | (guard_target =~ wpList _ _ _ (Oper.mk _ (.alloc _) _ _ _ _ :: _) _ _; refine BigFrame.wpList_want rfl (fun K hK => ?_); refine o_alloc (z := ?_) rfl ?_ H rfl (fun w3 b2 he H2 => hK _ _ ?_); rotate_left 1; (focus (intro _; simp; with_reducible exact rfl))) | (guard_target =~ wpList _ _ _ (Oper.mk _ (.box _ _) _ _ _ _ :: _) _ _; refine BigFrame.wpList_want rfl (fun K hK => ?_); refine o_box rfl H rfl (fun w3 b2 he H2 => hK _ _ ?_))); clear hK K he; clear H; (try clear w2); revert w3; intro w2 H; (try simp [Act.eval, List.getD, cells_iV, iL_length, setL_i, setL_ii, agg_iL, cells_rV, rL_length, setL_r, setL_rr, agg_rL] at H); (try simp [Value.cells, setL, cells_iV, iL_length, setL_i, setL_ii, agg_iL, cells_rV, rL_length, setL_r, setL_rr, agg_rL] at H); (first | (clear tk0; rename Nat => c1) | (clear tk1; rename Nat => c2) | (clear tk2; rename Nat => c3)))); simp only [Act.put, List.setIfInBounds_toArray, List.set_cons_succ, List.set_cons_zero, cells_iV, iL_length, setL_i, setL_ii, agg_iL, cells_rV, rL_length, setL_r, setL_rr, agg_rL]))
      have hr := H.loadVarN (P := Try.prog) (ty := 26) m0 (by simp) (by simp [rL_length])
      exact bodyPost_ret (v := .tuple #[rV 0 0, .int .i64 1]) (by simp [results, Try.results48, asAddr, hr, agg_rL]) rfl ⟨rfl, H.below⟩
end Go.Proofs.Ytmmieilogpmocaa
