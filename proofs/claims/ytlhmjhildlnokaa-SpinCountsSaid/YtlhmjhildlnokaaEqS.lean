/-
  Structs held against each other, field by field; a law of this claim's own. Nothing of the program stands here.
-/
import Derived.Test.YtlhmjhildlnokaaBase
import Derived.Laws.StructEq
namespace Go.Proofs.Ytlhmjhildlnokaa
set_option linter.unusedVariables false
variable {P : Program}
/-- A field: type, place, both values, whether they are the same. -/
structure FldEq where
  ty : TypeId
  off : Nat
  x : Value
  y : Value
  b : Bool
structure FldEq.ok (P : Program) (d : Nat) (xs ys : Array Value) (f : FldEq) : Prop where
  px : ∀ w, (part f.ty xs f.off).run P w = .ok f.x w
  py : ∀ w, (part f.ty ys f.off).run P w = .ok f.y w
  eq : ∀ w, (Op.equalIn d f.ty f.x f.y).run P w = .ok f.b w
theorem run_eqFields (d : Nat) (xs ys : Array Value) : ∀ (fs : List Field) (l : List FldEq), fs.map (fun f => (f.name == "_", f.type, f.offset)) = l.map (fun f => (false, f.ty, f.off)) → (∀ f ∈ l, f.ok P d xs ys) →
    ∀ w, (Op.eqFields d xs ys fs).run P w = .ok (l.all (·.b)) w
  | [], [], _, _, w => by simp [Op.eqFields]
  | [], _ :: _, h, _, _ => by simp at h
  | _ :: _, [], h, _, _ => by simp at h
  | f :: fs, g :: l, h, hl, w => by
    simp only [List.map_cons, List.cons.injEq, Prod.mk.injEq] at h
    obtain ⟨⟨h1, h2, h3⟩, h⟩ := h
    have hg := hl g (by simp)
    have ih := run_eqFields d xs ys fs l h (fun f hf => hl f (List.mem_cons_of_mem _ hf)) w
    have hn : f.name ≠ "_" := by simpa using h1
    unfold Op.eqFields
    rw [if_pos hn]
    simp only [Sem.run_bind, h2, h3, hg.px, hg.py, hg.eq, Result.andThen_ok, List.all_cons]
    cases hb : g.b with
    | false => simp
    | true => simp [ih]
theorem eqS_in {d : Nat} {T : TypeId} {xs ys : Array Value} (l : List FldEq) (hu : P.underlying T = some (.struct (P.fieldsOf T))) (hh : P.stoodInHeld T = false)
    (hf : (P.fieldsOf T).toList.map (fun f => (f.name == "_", f.type, f.offset)) = l.map (fun f => (false, f.ty, f.off))) (hl : ∀ f ∈ l, f.ok P d xs ys) (w : World) :
    (Op.equalIn (d + 1) T (.agg xs) (.agg ys)).run P w = .ok (l.all (·.b)) w := by
  rw [run_equalIn_struct w d _ _ _ hu hh]
  exact run_eqFields d xs ys _ l hf hl w
theorem part_cell {T : TypeId} {cs : Array Value} {i : Nat} {v : Value} (ha : ∀ w, (isAgg T).run P w = .ok false w) (h : cs[i]? = some v) (w : World) : (part T cs i).run P w = .ok v w := by
  unfold part
  simp [go_sem, ha, h]
theorem part_row {T : TypeId} {cs : Array Value} {i n : Nat} {xs : Array Value} (ha : ∀ w, (isAgg T).run P w = .ok true w) (hs : ∀ w, (sizeOf T).run P w = .ok n w) (h : cs.extract i (i + n) = xs) (w : World) : (part T cs i).run P w = .ok (.agg xs) w := by
  unfold part
  simp [ha, hs, h]
theorem eqS_eql {T : TypeId} {xs ys : Array Value} {v : Bool} (h : ∀ w, (Op.equalIn 10000 T (.agg xs) (.agg ys)).run P w = .ok v w) (w : World) : (binOp .eql T (.agg xs) (.agg ys)).run P w = .ok (.bool v) w := by
  simp only [binOp]
  simp [Op.equal, Op.maxDepth, h w]
theorem eqS_neq {T : TypeId} {xs ys : Array Value} {v : Bool} (h : ∀ w, (Op.equalIn 10000 T (.agg xs) (.agg ys)).run P w = .ok v w) (w : World) : (binOp .neq T (.agg xs) (.agg ys)).run P w = .ok (.bool (!v)) w := by
  simp only [binOp]
  simp [Op.equal, Op.maxDepth, h w]
end Go.Proofs.Ytlhmjhildlnokaa
