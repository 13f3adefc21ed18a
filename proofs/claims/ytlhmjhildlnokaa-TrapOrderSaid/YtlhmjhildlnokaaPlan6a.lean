/-
  The document's plan: points, links, what lies on a line, what is met: as a list's laws.
-/
import Derived.Test.YtlhmjhildlnokaaPlan2
import Derived.Test.YtlhmjhildlnokaaGeomS
namespace Go.Proofs.Ytlhmjhildlnokaa
set_option linter.unusedVariables false
set_option linter.unusedSimpArgs false
open Go.RowKit

def rpt (vs : List Vt) (id : Int) : Pt := ((vs.find? fun v => v.id == id).map (·.p)).getD ⟨0, 0⟩
theorem rpt_some {vs : List Vt} {id i x y : Int} (h : (vs.find? fun v => v.id == id) = some ⟨i, ⟨x, y⟩⟩) : rpt vs id = ⟨x, y⟩ := by unfold rpt; rw [h]; rfl
theorem find_idx {α : Type} {f : α → Bool} : ∀ {l : List α} {a : α}, l.find? f = some a → ∃ k, l.findIdx? f = some k ∧ l[k]? = some a
  | [], a, h => by simp at h
  | b :: l, a, h => by
    by_cases hb : f b = true
    · rw [List.find?_cons_of_pos hb] at h
      exact ⟨0, by simp [List.findIdx?_cons, hb], by simpa using h⟩
    · rw [List.find?_cons_of_neg hb] at h
      obtain ⟨k, h1, h2⟩ := find_idx h
      exact ⟨k + 1, by rw [List.findIdx?_cons, h1]; simp [hb], by simpa using h2⟩
theorem inB_P {a : Pt} (h : inB a = true) : InP a := of_decide_eq_true h
def linksB (es : List Eg) (a b : Int) : Bool := es.any fun e => (e.a == a && e.b == b) || (e.a == b && e.b == a)
def onWayR (vs : List Vt) (a b : Pt) : Bool := vs.any fun v => onR v.p a b
def meetsR (vs : List Vt) (es : List Eg) (a b : Pt) : Bool := es.any fun e => meetR a b (rpt vs e.a) (rpt vs e.b)
end Go.Proofs.Ytlhmjhildlnokaa
