/-
  An argument that is a struct of two arrays of four integers. Nothing of the program stands here.
-/
import Derived.Test.YtdgpdafkngoegaaBase
import Derived.ChangeArms
namespace Go.Proofs.Ytdgpdafkngoegaa
set_option linter.unusedVariables false
open Go.RowKit Go.WideShapes Go.ChangeShapes
section
variable {H : Type} {enc : TypeId × Value → H} {P : Program} {w : World} {base : Nat} {spare : Nat → Bool} {held : Bool}
theorem trod_arr4 {t e : TypeId} {q : IntKind} {m : Nat} {cs : List Value} {y : DataW H × List MemPlace} (hu : P.underlying t = some (.array 4 e)) (he : P.underlying e = some (.int q)) (hc : P.cellsOf e = 1) (hC : P.cellsOf t = 4)
    (hf : DataW.trod enc P w base spare held m t cs = some y) :
    ∃ a b c x : Int, cs = [.int q a, .int q b, .int q c, .int q x] ∧ (Lit.int q a).wf = true ∧ (Lit.int q b).wf = true ∧ (Lit.int q c).wf = true ∧ (Lit.int q x).wf = true := by
  cases m with
  | zero => simp [DataW.trod] at hf
  | succ m =>
    rw [DataW.trod_step] at hf
    unfold DataW.trodStep at hf
    simp only [hu] at hf
    by_cases hl : cs.length = P.cellsOf t
    · rw [if_pos hl, hc] at hf
      rw [hC] at hl
      obtain ⟨c0, c1, c2, c3, rfl⟩ : ∃ c0 c1 c2 c3, cs = [c0, c1, c2, c3] := by
        match cs, hl with
        | [c0, c1, c2, c3], _ => exact ⟨c0, c1, c2, c3, rfl⟩
      simp only [Option.map_eq_some_iff] at hf
      obtain ⟨ys, hy, _⟩ := hf
      have hr : List.range 4 = [0, 1, 2, 3] := rfl
      rw [hr] at hy
      simp only [List.mapM_cons, bind, Option.bind_eq_some_iff] at hy
      obtain ⟨y0, h0, _, ⟨y1, h1, _, ⟨y2, h2, _, ⟨y3, h3, _⟩, _⟩, _⟩, _⟩ := hy
      obtain ⟨a, ea, _, wa⟩ := DataW.trod_int he h0
      obtain ⟨b, eb, _, wb⟩ := DataW.trod_int he h1
      obtain ⟨c, ec, _, wc⟩ := DataW.trod_int he h2
      obtain ⟨x, ex, _, wx⟩ := DataW.trod_int he h3
      simp at ea eb ec ex
      subst ea eb ec ex
      exact ⟨a, b, c, x, rfl, wa, wb, wc, wx⟩
    · rw [if_neg hl] at hf; cases hf
theorem open_rat {r : Reach} {b0 : Nat} {T t e : TypeId} {q : IntKind} {fs : Array Field} {v : Value} {d : DataW H} {p : List MemPlace} (hU : P.underlying T = some (.struct fs)) (hfs : fs.toList.map (fun f => (f.type, f.offset)) = [(t, 0), (t, 4)])
    (hu : P.underlying t = some (.array 4 e)) (he : P.underlying e = some (.int q)) (hc : P.cellsOf e = 1) (hC : P.cellsOf t = 4) (hCT : P.cellsOf T = 8)
    (hv : Value.okWide P w r b0 T v) (h : DataW.Trod enc P w base spare held T v d p) :
    ∃ a b c x a' b' c' x' : Int, v = .agg #[.int q a, .int q b, .int q c, .int q x, .int q a', .int q b', .int q c', .int q x'] ∧ (Lit.int q a).wf = true ∧ (Lit.int q b).wf = true ∧ (Lit.int q c).wf = true ∧ (Lit.int q x).wf = true ∧
      (Lit.int q a').wf = true ∧ (Lit.int q b').wf = true ∧ (Lit.int q c').wf = true ∧ (Lit.int q x').wf = true := by
  simp only [Value.okWide, hU] at hv
  obtain ⟨cs, rfl, hsz, _⟩ := hv
  rw [hCT] at hsz
  obtain ⟨f, g, hl, f1, f2, g1, g2⟩ : ∃ f g, fs.toList = [f, g] ∧ f.type = t ∧ f.offset = 0 ∧ g.type = t ∧ g.offset = 4 := by
    revert hfs
    generalize fs.toList = l
    intro hfs
    match l, hfs with
    | [], hf => simp at hf
    | [_], hf => simp at hf
    | _ :: _ :: _ :: _, hf => simp at hf
    | [f, g], hf =>
      simp at hf
      obtain ⟨⟨f1, f2⟩, g1, g2⟩ := hf
      exact ⟨f, g, rfl, f1, f2, g1, g2⟩
  obtain ⟨fuel, hf⟩ := h
  cases fuel with
  | zero => simp [DataW.trod] at hf
  | succ m =>
    rw [DataW.trod_step] at hf
    unfold DataW.trodStep at hf
    simp only [hU, Value.cells] at hf
    rw [if_pos (by rw [hCT]; simpa using hsz), hl] at hf
    simp only [Option.map_eq_some_iff] at hf
    obtain ⟨ys, hy, _⟩ := hf
    simp only [List.mapM_cons, bind, Option.bind_eq_some_iff, f1, f2, g1, g2, hC] at hy
    obtain ⟨y0, h0, _, ⟨y1, h1, _⟩, _⟩ := hy
    obtain ⟨a, b, c, x, ea, wa, wb, wc, wx⟩ := trod_arr4 hu he hc hC h0
    obtain ⟨a', b', c', x', ea', wa', wb', wc', wx'⟩ := trod_arr4 hu he hc hC h1
    obtain ⟨l⟩ := cs
    simp only [List.size_toArray] at hsz
    obtain ⟨c0, c1, c2, c3, c4, c5, c6, c7, rfl⟩ : ∃ c0 c1 c2 c3 c4 c5 c6 c7, l = [c0, c1, c2, c3, c4, c5, c6, c7] := by
      match l, hsz with
      | [c0, c1, c2, c3, c4, c5, c6, c7], _ => exact ⟨c0, c1, c2, c3, c4, c5, c6, c7, rfl⟩
    simp at ea ea'
    obtain ⟨rfl, rfl, rfl, rfl⟩ := ea
    obtain ⟨rfl, rfl, rfl, rfl⟩ := ea'
    exact ⟨a, b, c, x, a', b', c', x', rfl, wa, wb, wc, wx, wa', wb', wc', wx'⟩
end
end Go.Proofs.Ytdgpdafkngoegaa
