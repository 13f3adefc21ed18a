/-
  The document's plan: when it is right, as a list's laws.
-/
import Derived.Test.YtlhmjhildlnokaaPlan6a
namespace Go.Proofs.Ytlhmjhildlnokaa
set_option linter.unusedVariables false
set_option linter.unusedSimpArgs false
open Go.RowKit

def prevV (vs : List Vt) (j : Nat) : Int := ((vs[j - 1]?).map (·.id)).getD 0
def prevE (es : List Eg) (j : Nat) : Int := ((es[j - 1]?).map (·.id)).getD 0
def vOKr (vs : List Vt) (j : Nat) : Bool :=
  match vs[j]? with
  | some v => !((decide (v.id < 1) || ((decide (0 < j) && decide (v.id ≤ prevV vs j)) || !inB v.p)) || (vs.take j).any fun u => decide (u.p = v.p))
  | none => true
def eOKr (vs : List Vt) (es : List Eg) (j : Nat) : Bool :=
  match es[j]? with
  | some e => !(decide (e.id < 1) || ((decide (0 < j) && decide (e.id ≤ prevE es j)) || (e.a == e.b || (!(vs.find? fun v => v.id == e.a).isSome || (!(vs.find? fun v => v.id == e.b).isSome ||
      (linksB (es.take j) e.a e.b || (onWayR vs (rpt vs e.a) (rpt vs e.b) || meetsR vs (es.take j) (rpt vs e.a) (rpt vs e.b))))))))
  | none => true
def rightR (vs : List Vt) (es : List Eg) : Bool := !(decide (512 < vs.length) || decide (1024 < es.length)) && ((List.range vs.length).all (vOKr vs) && (List.range es.length).all (eOKr vs es))
theorem idx_none {α : Type} {f : α → Bool} {l : List α} (h : l.find? f = none) : l.findIdx? f = none := by
  rw [List.findIdx?_eq_none_iff]
  intro x hx
  have := List.find?_eq_none.1 h x hx
  simpa using this
theorem rangeR_step {f : Nat → Bool} {j : Nat} (h : (List.range j).all f = true) (hf : f j = true) : (List.range (j + 1)).all f = true := by
  rw [List.range_succ, List.all_append, h]; simp [hf]
theorem rangeR_no {f : Nat → Bool} {j n : Nat} (hj : j < n) (hf : f j = false) : (List.range n).all f = false := by
  rw [Bool.eq_false_iff]
  intro h
  have := List.all_eq_true.1 h j (List.mem_range.2 hj)
  rw [hf] at this; cases this
theorem rightR_len (vs : List Vt) (es : List Eg) (h : (decide (512 < vs.length) || decide (1024 < es.length)) = true) : rightR vs es = false := by unfold rightR; rw [h]; rfl
theorem rightR_v (vs : List Vt) (es : List Eg) {j : Nat} (hj : j < vs.length) (h : vOKr vs j = false) : rightR vs es = false := by unfold rightR; rw [rangeR_no hj h]; simp
theorem rightR_e (vs : List Vt) (es : List Eg) {j : Nat} (hj : j < es.length) (h : eOKr vs es j = false) : rightR vs es = false := by unfold rightR; rw [rangeR_no hj h]; simp
theorem rightR_y (vs : List Vt) (es : List Eg) (h1 : vs.length ≤ 512) (h2 : es.length ≤ 1024) (h3 : (List.range vs.length).all (vOKr vs) = true) (h4 : (List.range es.length).all (eOKr vs es) = true) : rightR vs es = true := by
  unfold rightR; rw [h3, h4]
  simp; omega
theorem vokr_in {vs : List Vt} (h : (List.range vs.length).all (vOKr vs) = true) : ∀ v ∈ vs, inB v.p = true := by
  intro v hv
  obtain ⟨k, hk⟩ := List.getElem?_of_mem hv
  have := List.all_eq_true.1 h k (List.mem_range.2 (List.getElem?_eq_some_iff.1 hk).1)
  unfold vOKr at this
  rw [hk] at this
  simp at this
  exact this.1.2.2
theorem eokr_av {vs : List Vt} {es : List Eg} {j : Nat} (h : (List.range j).all (eOKr vs es) = true) : ∀ e ∈ es.take j, (∃ v, (vs.find? fun v => v.id == e.a) = some v) ∧ ∃ v, (vs.find? fun v => v.id == e.b) = some v := by
  intro e he
  obtain ⟨k, hk⟩ := List.getElem?_of_mem he
  rw [List.getElem?_take] at hk
  split at hk
  · rename_i hkj
    have := List.all_eq_true.1 h k (List.mem_range.2 hkj)
    unfold eOKr at this
    rw [hk] at this
    simp only [Bool.not_eq_true', Bool.or_eq_false_iff, Bool.not_eq_false'] at this
    obtain ⟨_, _, _, h1, h2, _⟩ := this
    exact ⟨Option.isSome_iff_exists.1 h1, Option.isSome_iff_exists.1 h2⟩
  · cases hk
end Go.Proofs.Ytlhmjhildlnokaa
