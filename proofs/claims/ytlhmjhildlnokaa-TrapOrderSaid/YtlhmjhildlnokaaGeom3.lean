/-
  The walks of geom: meet.
-/
import Derived.Test.YtlhmjhildlnokaaGeom2
import Derived.Laws.StructEq
namespace Go.Proofs.Ytlhmjhildlnokaa
set_option linter.unusedVariables false
set_option linter.unusedSimpArgs false
open Go.RowKit

theorem part_int (T : TypeId) (cs : Array Value) (i : Nat) (k : IntKind) (n : Int) (hs : ∀ w, (sizeOf T).run Try.prog w = .ok 1 w) (ha : ∀ w, (isAgg T).run Try.prog w = .ok false w) (h : cs[i]? = some (.int k n)) (w : World) : (part T cs i).run Try.prog w = .ok (.int k n) w := by
  unfold part
  obtain ⟨hi, h'⟩ := Array.getElem?_eq_some_iff.1 h
  simp [go_sem, hs, ha, h]
  try exact h'
theorem und_int (w : World) : (underlying 3).run Try.prog w = .ok (.int .i64) w := by kernel_rfl
theorem eq_int_in (k : Nat) (a b : Int) (w : World) : (Op.equalIn (k + 1) 3 (.int .i64 a) (.int .i64 b)).run Try.prog w = .ok (decide (a = b)) w := by
  simp [Op.equalIn, go_sem, und_int]
  rw [Bool.eq_iff_iff]; simp
theorem eqP_in (k : Nat) (a b c d : Int) (w : World) : (Op.equalIn (k + 2) 47 (pV a b) (pV c d)).run Try.prog w = .ok (decide (a = c) && decide (b = d)) w := by
  have hu : Try.prog.underlying 47 = some (.struct (Try.prog.fieldsOf 47)) := by kernel_rfl
  have hh : Try.prog.stoodInHeld 47 = false := by kernel_rfl
  have hf : (Try.prog.fieldsOf 47).toList.map (fun f => (f.name == "_", f.type, f.offset)) = [(false, 3, 0), (false, 3, 1)] := by kernel_rfl
  rw [run_equalIn_struct w (k + 1) _ _ _ hu hh]
  revert hf
  generalize (Try.prog.fieldsOf 47).toList = l
  intro hf
  match l, hf with
  | [], hf => simp at hf
  | [_], hf => simp at hf
  | _ :: _ :: _ :: _, hf => simp at hf
  | [f, g], hf =>
    simp at hf
    obtain ⟨⟨f1, f2, f3⟩, g1, g2, g3⟩ := hf
    have hs : ∀ w, (sizeOf 3).run Try.prog w = .ok 1 w := fun w => by kernel_rfl
    have ha : ∀ w, (isAgg 3).run Try.prog w = .ok false w := fun w => by kernel_rfl
    have p1 := fun w => part_int 3 #[.int .i64 a, .int .i64 b] 0 .i64 a hs ha rfl w
    have p2 := fun w => part_int 3 #[.int .i64 a, .int .i64 b] 1 .i64 b hs ha rfl w
    have q1 := fun w => part_int 3 #[.int .i64 c, .int .i64 d] 0 .i64 c hs ha rfl w
    have q2 := fun w => part_int 3 #[.int .i64 c, .int .i64 d] 1 .i64 d hs ha rfl w
    simp only [Op.eqFields, f1, g1, f2, g2, f3, g3, if_true, ne_eq, not_false_eq_true, Sem.run_bind, p1, p2, q1, q2, Result.andThen_ok, eq_int_in]
    cases decide (a = c)
    · simp
    · simp only [Bool.not_true, Bool.false_eq_true, if_false, Sem.run_bind, p2, q2, eq_int_in, Result.andThen_ok, Bool.true_and]
      cases decide (b = d) <;> simp
theorem eq_pt (a b c d : Int) (w : World) : (binOp .eql 47 (pV a b) (pV c d)).run Try.prog w = .ok (.bool (decide (a = c) && decide (b = d))) w := by
  simp only [binOp]
  simp [Op.equal, Op.maxDepth, eqP_in 9998 a b c d w]
theorem ne_pt (a b c d : Int) (w : World) : (binOp .neq 47 (pV a b) (pV c d)).run Try.prog w = .ok (.bool (!(decide (a = c) && decide (b = d)))) w := by
  simp only [binOp]
  simp [Op.equal, Op.maxDepth, eqP_in 9998 a b c d w]
theorem pt_eq (a b c d : Int) : decide ((⟨a, b⟩ : Pt) = ⟨c, d⟩) = (decide (a = c) && decide (b = d)) := by
  rw [Bool.eq_iff_iff]; simp
theorem on_in {p a b : Pt} (h1 : inB p = true) (h2 : inB a = true) (h3 : inB b = true) : onB p a b = onL p a b := by
  unfold onB; rw [h1, h2, h3]; rfl
theorem turn_01 (a b c : Pt) : -1 ≤ turnZ a b c ∧ turnZ a b c ≤ 1 := by
  rcases sg_cases (crossZ a b c) with ⟨_, h⟩ | ⟨_, h⟩ | ⟨_, h⟩ <;> unfold turnZ <;> rw [h] <;> omega
theorem mul_01 {s t : Int} (h1 : -1 ≤ s ∧ s ≤ 1) (h2 : -1 ≤ t ∧ t ≤ 1) : -1 ≤ s * t ∧ s * t ≤ 1 := mul_bound (B := 1) (C := 1) h1.1 h1.2 h2.1 h2.2
set_option maxRecDepth 100000 in
set_option maxHeartbeats 8000000 in
theorem meet_out (ax ay bx b_y cx cy dx dy : Int) (hin : ((inB ⟨ax, ay⟩ && (inB ⟨bx, b_y⟩ && (inB ⟨cx, cy⟩ && inB ⟨dx, dy⟩))) && (!decide ((⟨ax, ay⟩ : Pt) = ⟨bx, b_y⟩) && !decide ((⟨cx, cy⟩ : Pt) = ⟨dx, dy⟩))) = false) (w : World) :
    Calls Try.prog 80 #[pV ax ay, pV bx b_y, pV cx cy, pV dx dy] w fun e w' => e = .returned (.bool false) ∧ Below w.heap.size w w' := by
  have H := Own.start w
  have hall := all4 ax ay bx b_y cx cy dx dy
  have e1 := eq_pt ax ay bx b_y
  have e2 := eq_pt cx cy dx dy
  rw [← pt_eq] at e1 e2
  generalize decide ((⟨ax, ay⟩ : Pt) = ⟨bx, b_y⟩) = u1 at hin e1
  generalize decide ((⟨cx, cy⟩ : Pt) = ⟨dx, dy⟩) = u2 at hin e2
  generalize (inB ⟨ax, ay⟩ && (inB ⟨bx, b_y⟩ && (inB ⟨cx, cy⟩ && inB ⟨dx, dy⟩))) = u0 at hin hall
  cases u0
  · clear hin
    go_enter Try.func80, Try.ntmps80
    go_wp2_with (first
      | go_big_skip
      | (go_at_call 87; (with_reducible refine (hall _ _ (H.giveCells m0 (fun _ h => h.elim) 0 rfl)).mono ?_); rintro e w3 ⟨rfl, hb⟩; replace H := H.ext hb; clear hb; dsimp only; (skip))
      | (guard_target =~ wpList _ _ _ (_ :: _) _ _; (first | (guard_target =~ wpList _ _ _ (Oper.mk _ (.load _ _) _ _ _ _ :: _) _ _; refine BigFrame.wpList_want rfl (fun K hK => ?_); (refine o_loadNC (row := ?_) rfl rfl H ?_ ?_ ?_ (hK _ _ ?_); rotate_left 1; (repeat first | exact .head _ | apply List.Mem.tail); (focus (intro _; simp; done)); (focus (intro _; simp; done))); clear hK K) | ((first | (guard_target =~ wpList _ _ _ (Oper.mk _ (.box _ _) _ _ _ _ :: _) _ _; refine BigFrame.wpList_want rfl (fun K hK => ?_); refine o_box rfl H rfl (fun w3 b2 he H2 => hK _ _ ?_)) | (guard_target =~ wpList _ _ _ (Oper.mk _ (.buildSlice _ _ _) _ _ _ _ :: _) _ _; refine BigFrame.wpList_want rfl (fun K hK => ?_); refine o_buildSlice (C := ?_) (E := ?_) rfl rfl H ?_ rfl (fun w3 b2 he H2 => hK _ _ ?_); rotate_left 2; (focus (intro _; simp [go_sem, Instr.buildSlice]; with_reducible exact rfl)))); clear hK K he; clear H; (try clear w2); revert w3; intro w2 H; simp [Act.eval, Value.cells, setL, List.getD] at H)); simp only [Act.put, List.setIfInBounds_toArray, List.set_cons_succ, List.set_cons_zero]))
    go_ret
    exact ⟨rfl, H.below⟩
  · cases u1
    · cases u2
      · simp at hin
      · clear hin
        go_enter Try.func80, Try.ntmps80
        go_wp2_with (first
          | (go_at_call 87; (with_reducible refine (hall _ _ (H.giveCells m0 (fun _ h => h.elim) 0 rfl)).mono ?_); rintro e w3 ⟨rfl, hb⟩; replace H := H.ext hb; clear hb; dsimp only; (skip))
          | (guard_target =~ wpList _ _ _ (_ :: _) _ _; (first | (guard_target =~ wpList _ _ _ (Oper.mk _ (.load _ _) _ _ _ _ :: _) _ _; refine BigFrame.wpList_want rfl (fun K hK => ?_); (refine o_loadNC (row := ?_) rfl rfl H ?_ ?_ ?_ (hK _ _ ?_); rotate_left 1; (repeat first | exact .head _ | apply List.Mem.tail); (focus (intro _; simp; done)); (focus (intro _; simp; done))); clear hK K) | ((first | (guard_target =~ wpList _ _ _ (Oper.mk _ (.box _ _) _ _ _ _ :: _) _ _; refine BigFrame.wpList_want rfl (fun K hK => ?_); refine o_box rfl H rfl (fun w3 b2 he H2 => hK _ _ ?_)) | (guard_target =~ wpList _ _ _ (Oper.mk _ (.buildSlice _ _ _) _ _ _ _ :: _) _ _; refine BigFrame.wpList_want rfl (fun K hK => ?_); refine o_buildSlice (C := ?_) (E := ?_) rfl rfl H ?_ rfl (fun w3 b2 he H2 => hK _ _ ?_); rotate_left 2; (focus (intro _; simp [go_sem, Instr.buildSlice]; with_reducible exact rfl)))); clear hK K he; clear H; (try clear w2); revert w3; intro w2 H; simp [Act.eval, Value.cells, setL, List.getD] at H)); simp only [Act.put, List.setIfInBounds_toArray, List.set_cons_succ, List.set_cons_zero]))
        go_ret
        exact ⟨rfl, H.below⟩
    · clear hin
      go_enter Try.func80, Try.ntmps80
      go_wp2_with (first
        | go_big_skip
        | (go_at_call 87; (with_reducible refine (hall _ _ (H.giveCells m0 (fun _ h => h.elim) 0 rfl)).mono ?_); rintro e w3 ⟨rfl, hb⟩; replace H := H.ext hb; clear hb; dsimp only; (skip))
        | (guard_target =~ wpList _ _ _ (_ :: _) _ _; (first | (guard_target =~ wpList _ _ _ (Oper.mk _ (.load _ _) _ _ _ _ :: _) _ _; refine BigFrame.wpList_want rfl (fun K hK => ?_); (refine o_loadNC (row := ?_) rfl rfl H ?_ ?_ ?_ (hK _ _ ?_); rotate_left 1; (repeat first | exact .head _ | apply List.Mem.tail); (focus (intro _; simp; done)); (focus (intro _; simp; done))); clear hK K) | ((first | (guard_target =~ wpList _ _ _ (Oper.mk _ (.box _ _) _ _ _ _ :: _) _ _; refine BigFrame.wpList_want rfl (fun K hK => ?_); refine o_box rfl H rfl (fun w3 b2 he H2 => hK _ _ ?_)) | (guard_target =~ wpList _ _ _ (Oper.mk _ (.buildSlice _ _ _) _ _ _ _ :: _) _ _; refine BigFrame.wpList_want rfl (fun K hK => ?_); refine o_buildSlice (C := ?_) (E := ?_) rfl rfl H ?_ rfl (fun w3 b2 he H2 => hK _ _ ?_); rotate_left 2; (focus (intro _; simp [go_sem, Instr.buildSlice]; with_reducible exact rfl)))); clear hK K he; clear H; (try clear w2); revert w3; intro w2 H; simp [Act.eval, Value.cells, setL, List.getD] at H)); simp only [Act.put, List.setIfInBounds_toArray, List.set_cons_succ, List.set_cons_zero]))
      go_ret
      exact ⟨rfl, H.below⟩
end Go.Proofs.Ytlhmjhildlnokaa
