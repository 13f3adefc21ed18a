/-
  Plans in memory: rows of vertices and of edges; maps keyed by numbers, points and pairs.
-/
import Derived.Test.YtlhmjhildlnokaaOwnM
import Derived.Test.YtlhmjhildlnokaaGeom3
namespace Go.Proofs.Ytlhmjhildlnokaa
set_option linter.unusedVariables false
set_option linter.unusedSimpArgs false
open Go.RowKit

/-- A vertex, an edge. -/
structure Vt where
  id : Int
  p : Pt
deriving DecidableEq
structure Eg where
  id : Int
  a : Int
  b : Int
deriving DecidableEq
abbrev t3 (i x y : Int) : List Value := [.int .i64 i, .int .i64 x, .int .i64 y]
abbrev v3 (i x y : Int) : Value := .agg #[.int .i64 i, .int .i64 x, .int .i64 y]
def vR (l : List Vt) : List Value := l.flatMap fun v => t3 v.id v.p.x v.p.y
def eR (l : List Eg) : List Value := l.flatMap fun e => t3 e.id e.a e.b
theorem flat3_len {α : Type} (f : α → List Value) (hf : ∀ a, (f a).length = 3) : ∀ l : List α, (l.flatMap f).length = l.length * 3
  | [] => rfl
  | a :: l => by simp only [List.flatMap_cons, List.length_append, hf, flat3_len f hf l, List.length_cons]; omega
theorem flat3_at {α : Type} (f : α → List Value) (hf : ∀ a, (f a).length = 3) : ∀ (l : List α) (k : Nat) (a : α), l[k]? = some a → ((l.flatMap f).drop (k * 3)).take 3 = f a
  | [], k, a, h => by simp at h
  | b :: l, 0, a, h => by
    obtain rfl : b = a := by simpa using h
    simp only [List.flatMap_cons, Nat.zero_mul, List.drop_zero]
    rw [List.take_append_of_le_length (by rw [hf]; exact Nat.le_refl _), List.take_of_length_le (by rw [hf]; exact Nat.le_refl _)]
  | b :: l, k + 1, a, h => by
    have := flat3_at f hf l k a (by simpa using h)
    rw [List.flatMap_cons, show (k + 1) * 3 = 3 + k * 3 by omega, ← List.drop_drop]
    rw [List.drop_append_of_le_length (by rw [hf]; exact Nat.le_refl _), List.drop_of_length_le (l := f b) (by rw [hf]; exact Nat.le_refl _), List.nil_append]
    exact this
theorem vR_len (l : List Vt) : (vR l).length = l.length * 3 := flat3_len _ (fun _ => rfl) l
theorem eR_len (l : List Eg) : (eR l).length = l.length * 3 := flat3_len _ (fun _ => rfl) l
theorem vR_take (l : List Vt) (k : Nat) : vR (l.take k) = (vR l).take (k * 3) := by
  induction l generalizing k with
  | nil => simp [vR]
  | cons a l ih =>
    cases k with
    | zero => simp [vR]
    | succ k =>
      have := ih k
      simp only [vR, List.take_succ_cons, List.flatMap_cons] at this ⊢
      rw [this, show (k + 1) * 3 = k * 3 + 1 + 1 + 1 by omega]; rfl
theorem eR_take (l : List Eg) (k : Nat) : eR (l.take k) = (eR l).take (k * 3) := by
  induction l generalizing k with
  | nil => simp [eR]
  | cons a l ih =>
    cases k with
    | zero => simp [eR]
    | succ k =>
      have := ih k
      simp only [eR, List.take_succ_cons, List.flatMap_cons] at this ⊢
      rw [this, show (k + 1) * 3 = k * 3 + 1 + 1 + 1 by omega]; rfl
section
variable {A : Option Addr} {b off : Nat} {vs : List Vt} {es : List Eg} {k : Nat} {i x y : Int}
theorem at_v (h : vs[k]? = some ⟨i, ⟨x, y⟩⟩) : (Res.rd A b off (vR vs)).at b (off + k * 3) (t3 i x y) := at_rdN (cs := t3 i x y) (flat3_at _ (fun _ => rfl) vs k _ h)
theorem at_e (h : es[k]? = some ⟨i, x, y⟩) : (Res.rd A b off (eR es)).at b (off + k * 3) (t3 i x y) := at_rdN (cs := t3 i x y) (flat3_at _ (fun _ => rfl) es k _ h)
theorem sub_at {xs cs : List Value} {j n : Nat} (h : (xs.drop j).take n = cs) (d m : Nat) (hd : d + m ≤ n) : (xs.drop (j + d)).take m = (cs.drop d).take m := by
  rw [← List.drop_drop, ← h, List.drop_take, List.take_take, Nat.min_eq_left (by omega)]
theorem at_vid (h : vs[k]? = some ⟨i, ⟨x, y⟩⟩) : (Res.rd A b off (vR vs)).at b (off + k * 3) [.int .i64 i] := by
  refine at_rdN (j := k * 3) (cs := [_]) ?_
  exact sub_at (flat3_at _ (fun _ => rfl) vs k _ h) 0 1 (by omega)
theorem at_vp (h : vs[k]? = some ⟨i, ⟨x, y⟩⟩) : (Res.rd A b off (vR vs)).at b (off + k * 3 + 1) [.int .i64 x, .int .i64 y] := by
  rw [Nat.add_assoc]
  refine at_rdN (j := k * 3 + 1) (cs := [_, _]) ?_
  exact sub_at (flat3_at _ (fun _ => rfl) vs k _ h) 1 2 (by omega)
theorem at_eid (h : es[k]? = some ⟨i, x, y⟩) : (Res.rd A b off (eR es)).at b (off + k * 3) [.int .i64 i] := by
  refine at_rdN (j := k * 3) (cs := [_]) ?_
  exact sub_at (flat3_at _ (fun _ => rfl) es k _ h) 0 1 (by omega)
theorem at_ea (h : es[k]? = some ⟨i, x, y⟩) : (Res.rd A b off (eR es)).at b (off + k * 3 + 1) [.int .i64 x] := by
  rw [Nat.add_assoc]
  refine at_rdN (j := k * 3 + 1) (cs := [_]) ?_
  exact sub_at (flat3_at _ (fun _ => rfl) es k _ h) 1 1 (by omega)
theorem at_eb (h : es[k]? = some ⟨i, x, y⟩) : (Res.rd A b off (eR es)).at b (off + k * 3 + 2) [.int .i64 y] := by
  rw [Nat.add_assoc]
  refine at_rdN (j := k * 3 + 2) (cs := [_]) ?_
  exact sub_at (flat3_at _ (fun _ => rfl) es k _ h) 2 1 (by omega)
end
theorem vR_pos {vs : List Vt} {k : Nat} {v : Vt} (h : vs[k]? = some v) : 0 < (vR vs).length := by
  have := (List.getElem?_eq_some_iff.1 h).1
  rw [vR_len]; omega
theorem eR_pos {vs : List Eg} {k : Nat} {v : Eg} (h : vs[k]? = some v) : 0 < (eR vs).length := by
  have := (List.getElem?_eq_some_iff.1 h).1
  rw [eR_len]; omega
theorem vt_at (vs : List Vt) {k : Nat} (h : k < vs.length) : ∃ i x y, vs[k]? = some ⟨i, ⟨x, y⟩⟩ := ⟨vs[k].id, vs[k].p.x, vs[k].p.y, by rw [List.getElem?_eq_getElem h]⟩
theorem eg_at (vs : List Eg) {k : Nat} (h : k < vs.length) : ∃ i x y, vs[k]? = some ⟨i, x, y⟩ := ⟨vs[k].id, vs[k].a, vs[k].b, by rw [List.getElem?_eq_getElem h]⟩
section
variable {P : Program} {o : Oper} {a : Act} {w w0 : World} {B : Nat} {l : List Res} {Q : Exit → Act → World → Prop} {ty : TypeId} {x y : Operand} {b : Nat} {n : Value} {d : List Value}
theorem part12 : (Res.cells b (n :: d)).at b 1 d := ⟨rfl, by simp⟩
theorem q_loadPt {lf : List Res} {K : Act → Prop} (ho : o.op = .load ty x) (hx : a.eval x = .pointer (some ⟨b, 1, none⟩)) (hm : Res.cells b (n :: d) ∈ lf)
    (ha : ∀ w, (isAgg ty).run P w = .ok true w) (hs : ∀ w, (sizeOf ty).run P w = .ok d.length w) (hk : K (a.put o.dst (.agg d.toArray))) : o.quiet P a (Keeps B w0 lf) K := q_loadN ho hx part12 hm ha hs hk
theorem o_loadPt {K : Act → World → Prop} (ho : o.op = .load ty x) (hx : a.eval x = .pointer (some ⟨b, 1, none⟩)) (H : Own B w0 w l) (hm : Res.cells b (n :: d) ∈ l)
    (ha : ∀ w, (isAgg ty).run P w = .ok true w) (hs : ∀ w, (sizeOf ty).run P w = .ok d.length w) (hk : K (a.put o.dst (.agg d.toArray)) w) : o.wp P a w K Q := o_loadN ho hx H part12 hm ha hs hk
end
/-- What all of a row's heads say. -/
theorem any_yes {α : Type} {l : List α} {k : Nat} {a : α} {f : α → Bool} (h : l[k]? = some a) (hf : f a = true) : l.any f = true := List.any_eq_true.2 ⟨a, List.mem_of_getElem? h, hf⟩
theorem any_step {α : Type} {l : List α} {k : Nat} {a : α} {f : α → Bool} (h : l[k]? = some a) (h0 : (l.take k).any f = false) (hf : f a = false) : (l.take (k + 1)).any f = false := by
  rw [List.take_add_one, h, List.any_append, h0]; simp [hf]
/-! ### Keys -/
theorem key_int : KeyOK Try.prog 3 (Value.int .i64) where
  check e k w := by
    have : ∀ n, (Instr.checkKey e (n + 1) 3 (Value.int .i64 k)).run Try.prog w = .ok () w := fun n => by simp [Instr.checkKey, und_int]
    exact this 9999
  same k := by simp [Instr.sameBits]
  find := ⟨.int .i64, by kernel_rfl, .inl fun k k' => by simp [Instr.sameNow]; rw [Bool.eq_iff_iff]; simp⟩
abbrev kP (p : Pt) : Value := pV p.x p.y
theorem int_size (w : World) : (sizeOf 3).run Try.prog w = .ok 1 w := by kernel_rfl
theorem int_agg (w : World) : (isAgg 3).run Try.prog w = .ok false w := by kernel_rfl
theorem key_pt : KeyOK Try.prog 47 kP where
  check e k w := by
    have hu : Try.prog.underlying 47 = some (.struct (Try.prog.fieldsOf 47)) := by kernel_rfl
    have hf : (Try.prog.fieldsOf 47).toList.map (fun f => (f.name == "_", f.type, f.offset)) = [(false, 3, 0), (false, 3, 1)] := by kernel_rfl
    have : ∀ n, (Instr.checkKey e (n + 1 + 1) 47 (pV k.x k.y)).run Try.prog w = .ok () w := fun n => by
      unfold Instr.checkKey
      simp only [Sem.run_bind, run_underlying hu, Result.andThen_ok]
      revert hf
      generalize Try.prog.fieldsOf 47 = l
      obtain ⟨l⟩ := l
      intro hf
      match l, hf with
      | [], hf => simp at hf
      | [_], hf => simp at hf
      | _ :: _ :: _ :: _, hf => simp at hf
      | [f, g], hf =>
        simp at hf
        obtain ⟨⟨f1, f2, f3⟩, g1, g2, g3⟩ := hf
        have p1 := fun w => part_int 3 #[.int .i64 k.x, .int .i64 k.y] 0 .i64 k.x int_size int_agg rfl w
        have p2 := fun w => part_int 3 #[.int .i64 k.x, .int .i64 k.y] 1 .i64 k.y int_size int_agg rfl w
        simp [f1, f2, f3, g1, g2, g3, p1, p2, Instr.checkKey, und_int]
    exact this 9998
  same k := by
    have : ∀ n, Instr.sameBits (n + 1) (pV k.x k.y) (pV k.x k.y) = true := fun n => by simp [Instr.sameBits]
    exact this 9999
  find := ⟨.struct (Try.prog.fieldsOf 47), by kernel_rfl, .inr ⟨fun k v => by simp [Instr.sameNow], fun k k' w => by
    have := eqP_in 9998 k.x k.y k'.x k'.y w
    rw [← pt_eq] at this
    exact this⟩⟩
theorem eqPair_in (n : Nat) (a b c d : Int) (w : World) : (Op.equalIn (n + 1 + 1) 102 (pV a b) (pV c d)).run Try.prog w = .ok (decide (a = c) && decide (b = d)) w := by
  have hu : Try.prog.underlying 102 = some (.array 2 3) := by kernel_rfl
  have p1 := fun w => part_int 3 #[.int .i64 a, .int .i64 b] 0 .i64 a int_size int_agg rfl w
  have p2 := fun w => part_int 3 #[.int .i64 a, .int .i64 b] 1 .i64 b int_size int_agg rfl w
  have q1 := fun w => part_int 3 #[.int .i64 c, .int .i64 d] 0 .i64 c int_size int_agg rfl w
  have q2 := fun w => part_int 3 #[.int .i64 c, .int .i64 d] 1 .i64 d int_size int_agg rfl w
  unfold Op.equalIn
  simp only [Sem.run_bind, run_underlying hu, Result.andThen_ok, int_size]
  simp [Std.Legacy.Range.forIn_eq_forIn_range', List.range', p1, p2, q1, q2, eq_int_in]
  by_cases h1 : a = c <;> by_cases h2 : b = d <;> simp_all
theorem eq_pair (a b c d : Int) (w : World) : (binOp .eql 102 (pV a b) (pV c d)).run Try.prog w = .ok (.bool (decide (a = c) && decide (b = d))) w := by
  simp only [binOp]
  simp [Op.equal, Op.maxDepth, eqPair_in 9998 a b c d w]
theorem key_pair : KeyOK Try.prog 102 kP where
  check e k w := by
    have hu : Try.prog.underlying 102 = some (.array 2 3) := by kernel_rfl
    have p1 := fun w => part_int 3 #[.int .i64 k.x, .int .i64 k.y] 0 .i64 k.x int_size int_agg rfl w
    have p2 := fun w => part_int 3 #[.int .i64 k.x, .int .i64 k.y] 1 .i64 k.y int_size int_agg rfl w
    have : ∀ n, (Instr.checkKey e (n + 1 + 1) 102 (pV k.x k.y)).run Try.prog w = .ok () w := fun n => by
      unfold Instr.checkKey
      simp [run_underlying hu, Std.Legacy.Range.forIn_eq_forIn_range', List.range', int_size, p1, p2, Instr.checkKey, und_int]
    exact this 9998
  same k := by
    have : ∀ n, Instr.sameBits (n + 1) (pV k.x k.y) (pV k.x k.y) = true := fun n => by simp [Instr.sameBits]
    exact this 9999
  find := ⟨.array 2 3, by kernel_rfl, .inr ⟨fun k v => by simp [Instr.sameNow], fun k k' w => by
    have := eqPair_in 9998 k.x k.y k'.x k'.y w
    rw [← pt_eq] at this
    exact this⟩⟩
end Go.Proofs.Ytlhmjhildlnokaa
