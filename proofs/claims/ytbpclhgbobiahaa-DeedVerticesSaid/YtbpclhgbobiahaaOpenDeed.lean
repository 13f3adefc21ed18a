/-
  Arguments that are rows of a table: a vertex's, an edge's.
-/
import Derived.Test.YtbpclhgbobiahaaLay
import Derived.Test.YtbpclhgbobiahaaRows
import Derived.Test.YtbpclhgbobiahaaDeed3
namespace Go.Proofs.Ytbpclhgbobiahaa
set_option linter.unusedVariables false
set_option linter.constructorNameAsVariable false
open Go.RowKit Go.WideShapes Go.ChangeShapes

def In64 (n : Int) : Prop := -9223372036854775808 ≤ n ∧ n ≤ 9223372036854775807
theorem lay_i : Lay Try.prog 3 [.int .i64] := lay_int (by kernel_rfl) (by kernel_rfl)
theorem lay_b : Lay Try.prog 4 [.bool] := lay_bool (by kernel_rfl) (by kernel_rfl)
set_option maxRecDepth 100000 in
theorem lay_pt : Lay Try.prog 23 [.int .i64, .int .i64] :=
  lay_struct (l := [(3, [.int .i64]), (3, [.int .i64])]) (fs := Try.prog.fieldsOf 23) (by kernel_rfl) (by kernel_rfl) (by kernel_rfl) (by intro f hf; simp only [List.mem_cons, List.not_mem_nil, or_false] at hf; rcases hf with rfl | rfl; all_goals first | exact lay_i)
set_option maxRecDepth 100000 in
theorem lay_hf : Lay Try.prog 45 [.int .i64, .bool] :=
  lay_struct (l := [(3, [.int .i64]), (4, [.bool])]) (fs := Try.prog.fieldsOf 45) (by kernel_rfl) (by kernel_rfl) (by kernel_rfl) (by intro f hf; simp only [List.mem_cons, List.not_mem_nil, or_false] at hf; rcases hf with rfl | rfl; all_goals first | exact lay_i | exact lay_b)
theorem lay_h2 : Lay Try.prog 46 [.int .i64, .bool, .int .i64, .bool] := lay_array (n := 2) (by kernel_rfl) (by kernel_rfl) lay_hf
theorem lay_i2 : Lay Try.prog 47 [.int .i64, .int .i64] := lay_array (n := 2) (by kernel_rfl) (by kernel_rfl) lay_i
set_option maxRecDepth 100000 in
theorem lay_vr : Lay Try.prog 25 [.int .i64, .int .i64, .int .i64, .int .i64] :=
  lay_struct (l := [(3, [.int .i64]), (23, [.int .i64, .int .i64]), (3, [.int .i64])]) (fs := Try.prog.fieldsOf 25) (by kernel_rfl) (by kernel_rfl) (by kernel_rfl) (by intro f hf; simp only [List.mem_cons, List.not_mem_nil, or_false] at hf; rcases hf with rfl | rfl | rfl; all_goals first | exact lay_i | exact lay_pt)
set_option maxRecDepth 100000 in
theorem lay_er : Lay Try.prog 49 [.int .i64, .int .i64, .int .i64, .int .i64, .bool, .int .i64, .bool, .int .i64, .bool, .int .i64, .bool, .int .i64, .int .i64] :=
  lay_struct (l := [(3, [.int .i64]), (3, [.int .i64]), (3, [.int .i64]), (46, [.int .i64, .bool, .int .i64, .bool]), (46, [.int .i64, .bool, .int .i64, .bool]), (47, [.int .i64, .int .i64])]) (fs := Try.prog.fieldsOf 49) (by kernel_rfl) (by kernel_rfl) (by kernel_rfl) (by intro f hf; simp only [List.mem_cons, List.not_mem_nil, or_false] at hf; rcases hf with rfl | rfl | rfl | rfl | rfl | rfl; all_goals first | exact lay_i | exact lay_h2 | exact lay_i2)
section
variable {H : Type} {enc : TypeId × Value → H} {w : World} {base : Nat} {spare : Nat → Bool} {held : Bool}
set_option maxRecDepth 100000 in
theorem open_vr {r : Reach} {b0 : Nat} {v : Value} {d : DataW H} {p : List MemPlace} (hv : Value.okWide Try.prog w r b0 25 v) (h : DataW.Trod enc Try.prog w base spare held 25 v d p) :
    ∃ (id : Int) (x : Int) (y : Int) (face : Int), v = .agg #[.int .i64 id, .int .i64 x, .int .i64 y, .int .i64 face] ∧ In64 id ∧ In64 x ∧ In64 y ∧ In64 face := by
  obtain ⟨cs, rfl, hl, hc⟩ := open_lay lay_vr (.inl ⟨Try.prog.fieldsOf 25, by kernel_rfl⟩) hv h
  obtain ⟨_, e0, id, rfl, w0⟩ := hc 0 _ rfl
  obtain ⟨_, e1, x, rfl, w1⟩ := hc 1 _ rfl
  obtain ⟨_, e2, y, rfl, w2⟩ := hc 2 _ rfl
  obtain ⟨_, e3, face, rfl, w3⟩ := hc 3 _ rfl
  have e : cs = [.int .i64 id, .int .i64 x, .int .i64 y, .int .i64 face] := by
    apply List.ext_getElem?
    intro i
    match i with
    | 0 => exact e0
    | 1 => exact e1
    | 2 => exact e2
    | 3 => exact e3
    | i + 4 => rw [List.getElem?_eq_none (by rw [hl]; exact Nat.le_add_left _ _), List.getElem?_eq_none (by exact Nat.le_add_left _ _)]
  subst e
  exact ⟨id, x, y, face, rfl, bounds_i64 w0, bounds_i64 w1, bounds_i64 w2, bounds_i64 w3⟩
set_option maxRecDepth 100000 in
theorem open_er {r : Reach} {b0 : Nat} {v : Value} {d : DataW H} {p : List MemPlace} (hv : Value.okWide Try.prog w r b0 49 v) (h : DataW.Trod enc Try.prog w base spare held 49 v d p) :
    ∃ (id : Int) (a : Int) (b : Int) (ew : Int) (kw : Bool) (ex : Int) (kx : Bool) (ey : Int) (ky : Bool) (ez : Int) (kz : Bool) (g0 : Int) (g1 : Int), v = .agg #[.int .i64 id, .int .i64 a, .int .i64 b, .int .i64 ew, .bool kw, .int .i64 ex, .bool kx, .int .i64 ey, .bool ky, .int .i64 ez, .bool kz, .int .i64 g0, .int .i64 g1] ∧ In64 id ∧ In64 a ∧ In64 b ∧ In64 ew ∧ In64 ex ∧ In64 ey ∧ In64 ez ∧ In64 g0 ∧ In64 g1 := by
  obtain ⟨cs, rfl, hl, hc⟩ := open_lay lay_er (.inl ⟨Try.prog.fieldsOf 49, by kernel_rfl⟩) hv h
  obtain ⟨_, e0, id, rfl, w0⟩ := hc 0 _ rfl
  obtain ⟨_, e1, a, rfl, w1⟩ := hc 1 _ rfl
  obtain ⟨_, e2, b, rfl, w2⟩ := hc 2 _ rfl
  obtain ⟨_, e3, ew, rfl, w3⟩ := hc 3 _ rfl
  obtain ⟨_, e4, kw, rfl⟩ := hc 4 _ rfl
  obtain ⟨_, e5, ex, rfl, w5⟩ := hc 5 _ rfl
  obtain ⟨_, e6, kx, rfl⟩ := hc 6 _ rfl
  obtain ⟨_, e7, ey, rfl, w7⟩ := hc 7 _ rfl
  obtain ⟨_, e8, ky, rfl⟩ := hc 8 _ rfl
  obtain ⟨_, e9, ez, rfl, w9⟩ := hc 9 _ rfl
  obtain ⟨_, e10, kz, rfl⟩ := hc 10 _ rfl
  obtain ⟨_, e11, g0, rfl, w11⟩ := hc 11 _ rfl
  obtain ⟨_, e12, g1, rfl, w12⟩ := hc 12 _ rfl
  have e : cs = [.int .i64 id, .int .i64 a, .int .i64 b, .int .i64 ew, .bool kw, .int .i64 ex, .bool kx, .int .i64 ey, .bool ky, .int .i64 ez, .bool kz, .int .i64 g0, .int .i64 g1] := by
    apply List.ext_getElem?
    intro i
    match i with
    | 0 => exact e0
    | 1 => exact e1
    | 2 => exact e2
    | 3 => exact e3
    | 4 => exact e4
    | 5 => exact e5
    | 6 => exact e6
    | 7 => exact e7
    | 8 => exact e8
    | 9 => exact e9
    | 10 => exact e10
    | 11 => exact e11
    | 12 => exact e12
    | i + 13 => rw [List.getElem?_eq_none (by rw [hl]; exact Nat.le_add_left _ _), List.getElem?_eq_none (by exact Nat.le_add_left _ _)]
  subst e
  exact ⟨id, a, b, ew, kw, ex, kx, ey, ky, ez, kz, g0, g1, rfl, bounds_i64 w0, bounds_i64 w1, bounds_i64 w2, bounds_i64 w3, bounds_i64 w5, bounds_i64 w7, bounds_i64 w9, bounds_i64 w11, bounds_i64 w12⟩
end
end Go.Proofs.Ytbpclhgbobiahaa
