/-
  Fractions in memory: two wide numbers in a row; when two are the same.
-/
import Derived.Test.YtmmieilogpmocaaWide11
import Derived.Test.YtmmieilogpmocaaWideE
namespace Go.Proofs.Ytmmieilogpmocaa
set_option linter.unusedVariables false
set_option linter.unusedSimpArgs false
open Go.RowKit

def rL (n d : Int) : List Value := iL n ++ iL d
def rV (n d : Int) : Value := .agg (rL n d).toArray
theorem cells_rV (n d : Int) : (rV n d).cells = (rL n d).toArray := rfl
theorem rL_length (n d : Int) : (rL n d).length = 8 := rfl
theorem agg_rL (n d : Int) : Value.agg (rL n d).toArray = rV n d := rfl
theorem setL_r (r0 r1 r2 r3 r4 r5 r6 r7 : Value) (n d : Int) : setL [r0, r1, r2, r3, r4, r5, r6, r7] 0 (rL n d) = rL n d := rfl
theorem setL_rr (m e n d : Int) : setL (rL m e) 0 (rL n d) = rL n d := rfl
theorem rat_num {b : Nat} {n d : Int} : (Res.cells b (rL n d)).at b 0 (iL n) := at_part 0 4 (by simp [rL_length])
theorem rat_den {b : Nat} {n d : Int} : (Res.cells b (rL n d)).at b 4 (iL d) := at_part 4 4 (by simp [rL_length])
section
variable {P : Program} {B : Nat} {w0 w : World} {l : List Res} {o : Oper} {a : Act} {Q : Exit → Act → World → Prop} {ty : TypeId} {x : Operand} {b : Nat} {n d : Int}
theorem q_loadNum {lf : List Res} {K : Act → Prop} (ho : o.op = .load ty x) (hx : a.eval x = .pointer (some ⟨b, 0, none⟩)) (hm : Res.cells b (rL n d) ∈ lf)
    (ha : ∀ w, (isAgg ty).run P w = .ok true w) (hs : ∀ w, (sizeOf ty).run P w = .ok 4 w) (hk : K (a.put o.dst (iV n))) : o.quiet P a (Keeps B w0 lf) K := q_loadN ho hx rat_num hm ha hs hk
theorem q_loadDen {lf : List Res} {K : Act → Prop} (ho : o.op = .load ty x) (hx : a.eval x = .pointer (some ⟨b, 4, none⟩)) (hm : Res.cells b (rL n d) ∈ lf)
    (ha : ∀ w, (isAgg ty).run P w = .ok true w) (hs : ∀ w, (sizeOf ty).run P w = .ok 4 w) (hk : K (a.put o.dst (iV d))) : o.quiet P a (Keeps B w0 lf) K := q_loadN ho hx rat_den hm ha hs hk
theorem o_loadNum {K : Act → World → Prop} (ho : o.op = .load ty x) (hx : a.eval x = .pointer (some ⟨b, 0, none⟩)) (H : Own B w0 w l) (hm : Res.cells b (rL n d) ∈ l)
    (ha : ∀ w, (isAgg ty).run P w = .ok true w) (hs : ∀ w, (sizeOf ty).run P w = .ok 4 w) (hk : K (a.put o.dst (iV n)) w) : o.wp P a w K Q := o_loadN ho hx H rat_num hm ha hs hk
theorem o_loadDen {K : Act → World → Prop} (ho : o.op = .load ty x) (hx : a.eval x = .pointer (some ⟨b, 4, none⟩)) (H : Own B w0 w l) (hm : Res.cells b (rL n d) ∈ l)
    (ha : ∀ w, (isAgg ty).run P w = .ok true w) (hs : ∀ w, (sizeOf ty).run P w = .ok 4 w) (hk : K (a.put o.dst (iV d)) w) : o.wp P a w K Q := o_loadN ho hx H rat_den hm ha hs hk
theorem o_build {K : Act → World → Prop} {t : TypeId} {parts : Array (Nat × Operand)} {ps : Array (Nat × Value)} {v : Value} (ho : o.op = .build t parts) (hp : parts.map (fun q => (q.1, a.eval q.2)) = ps)
    (hb : ∀ w : World, (Instr.build t ps).run P w = .ok v w) (hk : K (a.put o.dst v) w) : o.wp P a w K Q := by
  unfold Oper.wp execOp
  subst hp
  simp only [ho, Sem.run_bind, hb w]
  exact hk
theorem q_build {K : Act → Prop} {C : World → Prop} {t : TypeId} {parts : Array (Nat × Operand)} {ps : Array (Nat × Value)} {v : Value} (ho : o.op = .build t parts) (hp : parts.map (fun q => (q.1, a.eval q.2)) = ps)
    (hb : ∀ w : World, (Instr.build t ps).run P w = .ok v w) (hk : K (a.put o.dst v)) : o.quiet P a C K :=
  ⟨v, fun w' _ => by
    unfold Oper.quietAt execOp
    subst hp
    simp only [ho, Sem.run_bind, hb w']
    exact ⟨rfl, rfl⟩, hk⟩
end
theorem rV_zero : rV 0 0 = .agg #[.int .u64 0, .int .u64 0, .int .u64 0, .int .u64 0, .int .u64 0, .int .u64 0, .int .u64 0, .int .u64 0] := by kernel_rfl

/-- T is the type of a struct of two numbers of type t. -/
structure Rat2 (T t : TypeId) : Prop where
  und : Try.prog.underlying T = some (.struct (Try.prog.fieldsOf T))
  held : Try.prog.stoodInHeld T = false
  fields : (Try.prog.fieldsOf T).toList.map (fun f => (f.name == "_", f.type, f.offset)) = [(false, t, 0), (false, t, 4)]
  und1 : ∀ w, (underlying t).run Try.prog w = .ok (.array 4 22) w
  size1 : ∀ w, (sizeOf t).run Try.prog w = .ok 4 w
  agg1 : ∀ w, (isAgg t).run Try.prog w = .ok true w
theorem Rat2.two {T t : TypeId} (h : Rat2 T t) : ∃ f g, (Try.prog.fieldsOf T).toList = [f, g] ∧ f.name ≠ "_" ∧ g.name ≠ "_" ∧ f.offset = 0 ∧ g.offset = 4 ∧ f.type = t ∧ g.type = t := by
  have hf := h.fields
  revert hf
  generalize (Try.prog.fieldsOf T).toList = l
  intro hf
  match l, hf with
  | [], hf => simp at hf
  | [_], hf => simp at hf
  | _ :: _ :: _ :: _, hf => simp at hf
  | [f, g], hf =>
    simp at hf
    obtain ⟨⟨f1, f2, f3⟩, g1, g2, g3⟩ := hf
    exact ⟨f, g, rfl, f1, g1, f3, g3, f2, g2⟩
theorem rat2_prog : Rat2 26 24 := ⟨by kernel_rfl, by kernel_rfl, by kernel_rfl, fun w => by kernel_rfl, fun w => by kernel_rfl, fun w => by kernel_rfl⟩
theorem eqL_iL (x y : Int) (hx : R256 x) (hy : R256 y) (d T : Nat) (hu : ∀ w, (underlying T).run Try.prog w = .ok (.array 4 22) w) (w : World) :
    (Op.equalIn (d + 2) T (iV x) (iV y)).run Try.prog w = .ok (decide (x = y)) w := by
  obtain ⟨a0, a1, a2, a3, ha0, ha1, ha2, ha3, hxx, eX⟩ := iV_words x hx
  obtain ⟨b0, b1, b2, b3, hb0, hb1, hb2, hb3, hyy, eY⟩ := iV_words y hy
  rw [eX, eY]
  have h := eqArr_in T 4 d hu [(a0, b0), (a1, b1), (a2, b2), (a3, b3)] rfl w
  rw [eqL_sv ha0 ha1 ha2 ha3 hb0 hb1 hb2 hb3, hxx, hyy] at h
  exact h
theorem part_num (T : TypeId) (n d : Int) (hs : ∀ w, (sizeOf T).run Try.prog w = .ok 4 w) (ha : ∀ w, (isAgg T).run Try.prog w = .ok true w) (w : World) : (part T (rL n d).toArray 0).run Try.prog w = .ok (iV n) w := by
  unfold part
  simp [go_sem, hs, ha, rL]
  rfl
theorem part_den (T : TypeId) (n d : Int) (hs : ∀ w, (sizeOf T).run Try.prog w = .ok 4 w) (ha : ∀ w, (isAgg T).run Try.prog w = .ok true w) (w : World) : (part T (rL n d).toArray 4).run Try.prog w = .ok (iV d) w := by
  unfold part
  simp [go_sem, hs, ha, rL]
  rfl
theorem eqR_in {T t : TypeId} (hT : Rat2 T t) (n d m e : Int) (hn : R256 n) (hd : R256 d) (hm : R256 m) (he : R256 e) (k : Nat) (w : World) :
    (Op.equalIn (k + 3) T (.agg (rL n d).toArray) (.agg (rL m e).toArray)).run Try.prog w = .ok (decide (n = m) && decide (d = e)) w := by
  obtain ⟨f, g, hl, f1, g1, f2, g2, f3, g3⟩ := hT.two
  have p1 := part_num t n d hT.size1 hT.agg1
  have p2 := part_num t m e hT.size1 hT.agg1
  have q1 := part_den t n d hT.size1 hT.agg1
  have q2 := part_den t m e hT.size1 hT.agg1
  have e1 := eqL_iL n m hn hm k t hT.und1
  have e2 := eqL_iL d e hd he k t hT.und1
  rw [run_equalIn_struct w (k + 2) T _ _ hT.und hT.held, hl]
  simp only [Op.eqFields, f1, g1, f2, g2, f3, g3, if_true, ne_eq, not_false_eq_true, Sem.run_bind, p1, p2, Result.andThen_ok, e1]
  cases decide (n = m)
  · simp
  · simp only [Bool.not_true, Bool.false_eq_true, if_false, Sem.run_bind, q1, q2, e2, Result.andThen_ok, Bool.true_and]
    cases decide (d = e) <;> simp
theorem eq_r {T t : TypeId} (hT : Rat2 T t) (n d m e : Int) (hn : R256 n) (hd : R256 d) (hm : R256 m) (he : R256 e) (w : World) :
    (binOp .eql T (rV n d) (rV m e)).run Try.prog w = .ok (.bool (decide (n = m) && decide (d = e))) w := by
  unfold rV
  simp only [binOp]
  simp [Op.equal, Op.maxDepth, eqR_in hT n d m e hn hd hm he 9997 w]
theorem ne_r {T t : TypeId} (hT : Rat2 T t) (n d m e : Int) (hn : R256 n) (hd : R256 d) (hm : R256 m) (he : R256 e) (w : World) :
    (binOp .neq T (rV n d) (rV m e)).run Try.prog w = .ok (.bool (!(decide (n = m) && decide (d = e)))) w := by
  unfold rV
  simp only [binOp]
  simp [Op.equal, Op.maxDepth, eqR_in hT n d m e hn hd hm he 9997 w]
theorem fill_two (a b c d e f g h z0 z1 z2 z3 z4 z5 z6 z7 : Value) : Instr.fill (fun i => (#[(0, 4), (4, 4)] : Array (Nat × Nat))[i]?) #[z0, z1, z2, z3, z4, z5, z6, z7] [(0, .agg #[a, b, c, d]), (1, .agg #[e, f, g, h])] = some #[a, b, c, d, e, f, g, h] := by
  simp [Instr.fill, Value.cells, List.zipIdx, List.foldl]
theorem build_r (n d : Int) (w : World) : (Instr.build 26 #[(0, iV n), (1, iV d)]).run Try.prog w = .ok (rV n d) w := by
  have hz : ∀ w, (zeroValue 26).run Try.prog w = .ok (rV 0 0) w := fun w => by rw [rV_zero]; kernel_rfl
  have hm : ∀ w, ((Try.prog.fieldsOf 26).mapM fun f => do pure (f.offset, ← sizeOf f.type) : Sem _).run Try.prog w = .ok #[(0, 4), (4, 4)] w := fun w => by kernel_rfl
  unfold Instr.build
  simp only [Sem.run_bind, hz, Result.andThen_ok, run_underlying rat2_prog.und, hm]
  have h := fill_two (.int .u64 (n % 18446744073709551616)) (.int .u64 (n / 18446744073709551616 % 18446744073709551616)) (.int .u64 (n / 340282366920938463463374607431768211456 % 18446744073709551616)) (.int .u64 (n / 6277101735386680763835789423207666416102355444464034512896 % 18446744073709551616))
    (.int .u64 (d % 18446744073709551616)) (.int .u64 (d / 18446744073709551616 % 18446744073709551616)) (.int .u64 (d / 340282366920938463463374607431768211456 % 18446744073709551616)) (.int .u64 (d / 6277101735386680763835789423207666416102355444464034512896 % 18446744073709551616)) (.int .u64 0) (.int .u64 0) (.int .u64 0) (.int .u64 0) (.int .u64 0) (.int .u64 0) (.int .u64 0) (.int .u64 0)
  rw [rV_zero]
  unfold iV
  simp only [Value.cells, h, Array.toList]
  rfl
theorem build_r0 (w : World) : (Instr.build 26 #[]).run Try.prog w = .ok (rV 0 0) w := by
  rw [rV_zero]; kernel_rfl
theorem guard_rVV (T : TypeId) (op : BinOp) (x y : Operand) (n d m e : Int) (w : World) (hg : ∀ w, (eqGuard op T x y (rV n d) (rV m e)).run Try.prog w = .ok () w) : (eqGuard op T x y (rV n d) (rV m e)).run Try.prog w = .ok () w := hg w
end Go.Proofs.Ytmmieilogpmocaa
