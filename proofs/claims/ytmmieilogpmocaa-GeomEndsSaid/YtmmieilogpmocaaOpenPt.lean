/-
  An argument that is a point: a struct of two integers.
-/
import Derived.Test.YtmmieilogpmocaaBase
import Derived.Test.YtmmieilogpmocaaGeom1
import Derived.ChangeArms
namespace Go.Proofs.Ytmmieilogpmocaa
set_option linter.unusedVariables false
set_option linter.constructorNameAsVariable false
open Go.RowKit Go.WideShapes Go.ChangeShapes
theorem len2 {l : List Value} (h : l.length = 2) : ∃ a b, l = [a, b] := by
  match l, h with
  | [a, b], _ => exact ⟨a, b, rfl⟩
section
variable {H : Type} {enc : TypeId × Value → H} {P : Program} {w : World} {base : Nat} {spare : Nat → Bool} {held : Bool}
/-- Fields of a struct. -/
theorem trod_flds {fs : Array Field} {t : TypeId} {n : Nat} {cs : List Value} {y : DataW H × List MemPlace} {l : List (TypeId × Nat)} (hu : P.underlying t = some (.struct fs)) (hfs : fs.toList.map (fun f => (f.type, f.offset)) = l)
    (h : DataW.trod enc P w base spare held n t cs = some y) : cs.length = P.cellsOf t ∧ ∀ u o, (u, o) ∈ l → ∃ n' x, DataW.trod enc P w base spare held n' u ((cs.drop o).take (P.cellsOf u)) = some x := by
  obtain ⟨xs, n', _, _, hlen, hxl, hx⟩ := DataW.trod_struct hu h
  refine ⟨hlen, fun u o hm => ?_⟩
  rw [← hfs] at hm
  obtain ⟨f, hf, e⟩ := List.mem_map.1 hm
  simp only [Prod.mk.injEq] at e
  obtain ⟨rfl, rfl⟩ := e
  obtain ⟨i, hi⟩ := List.getElem?_of_mem hf
  have hi' : fs[i]? = some f := by simpa using hi
  have := hx i f hi'
  have hil : i < xs.length := by rw [hxl]; exact (Array.getElem?_eq_some_iff.1 hi').1
  rw [List.getElem?_eq_getElem hil] at this
  exact ⟨n', _, this⟩
end
section
variable {H : Type} {enc : TypeId × Value → H} {w : World} {base : Nat} {spare : Nat → Bool} {held : Bool}
theorem wf64 {n : Int} (h : (Lit.int .i64 n).wf = true) : -9223372036854775808 ≤ n ∧ n ≤ 9223372036854775807 := bounds_i64 h
def In64 (n : Int) : Prop := -9223372036854775808 ≤ n ∧ n ≤ 9223372036854775807
theorem trod_pt {n : Nat} {cs : List Value} {y : DataW H × List MemPlace} (h : DataW.trod enc Try.prog w base spare held n 39 cs = some y) : ∃ a b, cs = [.int .i64 a, .int .i64 b] ∧ In64 a ∧ In64 b := by
  have hu : Try.prog.underlying 39 = some (.struct (Try.prog.fieldsOf 39)) := by kernel_rfl
  have hf : (Try.prog.fieldsOf 39).toList.map (fun f => (f.type, f.offset)) = [(3, 0), (3, 1)] := by kernel_rfl
  have hi : Try.prog.underlying 3 = some (.int .i64) := by kernel_rfl
  have hc : Try.prog.cellsOf 3 = 1 := by kernel_rfl
  have hC : Try.prog.cellsOf 39 = 2 := by kernel_rfl
  obtain ⟨hl, hx⟩ := trod_flds hu hf h
  rw [hC] at hl
  obtain ⟨c0, c1, rfl⟩ := len2 hl
  obtain ⟨_, _, h0⟩ := hx 3 0 (by simp)
  obtain ⟨_, _, h1⟩ := hx 3 1 (by simp)
  rw [hc] at h0 h1
  obtain ⟨a, ea, _, wa⟩ := DataW.trod_int hi h0
  obtain ⟨b, eb, _, wb⟩ := DataW.trod_int hi h1
  simp at ea eb
  subst ea eb
  exact ⟨a, b, rfl, bounds_i64 wa, bounds_i64 wb⟩
theorem open_pt {r : Reach} {b0 : Nat} {v : Value} {d : DataW H} {p : List MemPlace} (hv : Value.okWide Try.prog w r b0 39 v) (h : DataW.Trod enc Try.prog w base spare held 39 v d p) :
    ∃ a b, v = pV a b ∧ In64 a ∧ In64 b := by
  have hu : Try.prog.underlying 39 = some (.struct (Try.prog.fieldsOf 39)) := by kernel_rfl
  simp only [Value.okWide, hu] at hv
  obtain ⟨cs, rfl, hsz, _⟩ := hv
  obtain ⟨fuel, hx⟩ := h
  obtain ⟨a, b, e, wa, wb⟩ := trod_pt hx
  obtain ⟨l⟩ := cs
  simp [Value.cells] at e
  subst e
  exact ⟨a, b, rfl, wa, wb⟩
end
end Go.Proofs.Ytmmieilogpmocaa
