/-
  An argument that is an array of four integers. Nothing of the program stands here.
-/
import Derived.Test.YtbpclhgbobiahaaBase
import Derived.ChangeArms
namespace Go.Proofs.Ytbpclhgbobiahaa
set_option linter.unusedVariables false
open Go.RowKit Go.WideShapes Go.ChangeShapes
section
variable {H : Type} {enc : TypeId × Value → H} {P : Program} {w : World} {base : Nat} {spare : Nat → Bool} {held : Bool}
theorem open_arr4 {r : Reach} {b0 : Nat} {t e : TypeId} {q : IntKind} {v : Value} {d : DataW H} {p : List MemPlace} (hu : P.underlying t = some (.array 4 e)) (he : P.underlying e = some (.int q)) (hc : P.cellsOf e = 1) (hC : P.cellsOf t = 4)
    (hv : Value.okWide P w r b0 t v) (h : DataW.Trod enc P w base spare held t v d p) :
    ∃ a b c x : Int, v = .agg #[.int q a, .int q b, .int q c, .int q x] ∧ (Lit.int q a).wf = true ∧ (Lit.int q b).wf = true ∧ (Lit.int q c).wf = true ∧ (Lit.int q x).wf = true := by
  simp only [Value.okWide, hu] at hv
  obtain ⟨cs, rfl, hsz, _⟩ := hv
  rw [hC] at hsz
  obtain ⟨c0, c1, c2, c3, rfl⟩ : ∃ c0 c1 c2 c3, cs = #[c0, c1, c2, c3] := by
    obtain ⟨l⟩ := cs
    match l, hsz with
    | [c0, c1, c2, c3], _ => exact ⟨c0, c1, c2, c3, rfl⟩
  obtain ⟨fuel, hf⟩ := h
  cases fuel with
  | zero => simp [DataW.trod] at hf
  | succ m =>
    rw [DataW.trod_step] at hf
    unfold DataW.trodStep at hf
    simp only [hu, Value.cells] at hf
    rw [if_pos (by rw [hC]; rfl), hc] at hf
    simp only [Option.map_eq_some_iff] at hf
    obtain ⟨ys, hy, _⟩ := hf
    have hr : List.range 4 = [0, 1, 2, 3] := rfl
    rw [hr] at hy
    simp only [List.mapM_cons, bind, Option.bind_eq_some_iff] at hy
    obtain ⟨y0, h0, _, ⟨y1, h1, _, ⟨y2, h2, _, ⟨y3, h3, _⟩, _⟩, _⟩, _⟩ := hy
    obtain ⟨a, ea, _, wa⟩ := DataW.trod_int he h0
    obtain ⟨b, eb, _, wb⟩ := DataW.trod_int he h1
    obtain ⟨c, ec, _, wc⟩ := DataW.trod_int he h2
    obtain ⟨x, ex, _, wx⟩ := DataW.trod_int he h3
    simp at ea eb ec ex
    subst ea eb ec ex
    exact ⟨a, b, c, x, rfl, wa, wb, wc, wx⟩
end
end Go.Proofs.Ytbpclhgbobiahaa
