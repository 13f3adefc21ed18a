/-
  Arguments that are made of scalars alone (structs and arrays of numbers, truths, texts): what their cells are. Nothing of the program stands here.
-/
import Derived.Test.YtbpclhgbobiahaaBase
import Derived.ChangeArms
import Derived.OpenShut
namespace Go.Proofs.Ytbpclhgbobiahaa
set_option linter.unusedVariables false
open Go.RowKit Go.WideShapes Go.ChangeShapes

inductive Sc where
  | int (k : IntKind)
  | bool
  | str
/-- What a cell of this kind has. -/
def Sc.ok : Sc → Value → Prop
  | .int k, v => ∃ n, v = .int k n ∧ (Lit.int k n).wf = true
  | .bool, v => ∃ b, v = .bool b
  | .str, v => ∃ s : ByteArray, v = .string s ∧ s.size ≤ maxLen
/-- The cells of a type. -/
def Lay (P : Program) (t : TypeId) (l : List Sc) : Prop := P.cellsOf t = l.length ∧
  ∀ (H : Type) (enc : TypeId × Value → H) (w : World) (base : Nat) (spare : Nat → Bool) (held : Bool) (n : Nat) (cs : List Value) (y : DataW H × List MemPlace), DataW.trod enc P w base spare held n t cs = some y →
    cs.length = l.length ∧ ∀ (i : Nat) (s : Sc), l[i]? = some s → ∃ v, cs[i]? = some v ∧ s.ok v
variable {P : Program} {t : TypeId}
theorem lay_int {k : IntKind} (hu : P.underlying t = some (.int k)) (hc : P.cellsOf t = 1) : Lay P t [.int k] := by
  refine ⟨hc, fun H enc w base spare held n cs y h => ?_⟩
  obtain ⟨m, rfl, _, hw⟩ := DataW.trod_int hu h
  refine ⟨rfl, fun i s hi => ?_⟩
  match i, hi with
  | 0, hi => obtain rfl : Sc.int k = s := by simpa using hi
             exact ⟨_, rfl, m, rfl, hw⟩
theorem lay_bool (hu : P.underlying t = some .bool) (hc : P.cellsOf t = 1) : Lay P t [.bool] := by
  refine ⟨hc, fun H enc w base spare held n cs y h => ?_⟩
  obtain ⟨m, rfl, _⟩ := DataW.trod_bool hu h
  refine ⟨rfl, fun i s hi => ?_⟩
  match i, hi with
  | 0, hi => obtain rfl : Sc.bool = s := by simpa using hi
             exact ⟨_, rfl, m, rfl⟩
theorem lay_str (hu : P.underlying t = some .string) (hc : P.cellsOf t = 1) : Lay P t [.str] := by
  refine ⟨hc, fun H enc w base spare held n cs y h => ?_⟩
  obtain ⟨m, rfl, _, hw⟩ := DataW.trod_string hu h
  refine ⟨rfl, fun i s hi => ?_⟩
  match i, hi with
  | 0, hi => obtain rfl : Sc.str = s := by simpa using hi
             exact ⟨_, rfl, m, rfl, hw⟩
/-- Fields behind one another. -/
def chain : Nat → List (TypeId × List Sc) → List (TypeId × Nat)
  | _, [] => []
  | o, (t, l) :: r => (t, o) :: chain (o + l.length) r
theorem chain_at : ∀ (fs : List (TypeId × List Sc)) (o i : Nat) (s : Sc), (fs.flatMap (·.2))[i]? = some s → ∃ t l o', (t, o') ∈ chain o fs ∧ (t, l) ∈ fs ∧ o ≤ o' ∧ o' ≤ o + i ∧ l[o + i - o']? = some s
  | [], o, i, s, h => by simp at h
  | (t, l) :: r, o, i, s, h => by
    rw [List.flatMap_cons] at h
    rcases Nat.lt_or_ge i l.length with hi | hi
    · rw [List.getElem?_append_left hi] at h
      exact ⟨t, l, o, by simp [chain], by simp, Nat.le_refl _, Nat.le_add_right _ _, by rw [show o + i - o = i by omega]; exact h⟩
    · rw [List.getElem?_append_right hi] at h
      obtain ⟨t', l', o', h1, h2, h3, h4, h5⟩ := chain_at r (o + l.length) (i - l.length) s h
      exact ⟨t', l', o', by simp [chain, h1], by simp [h2], by omega, by omega, by rw [← h5]; congr 1; omega⟩
theorem lay_struct {fs : Array Field} {l : List (TypeId × List Sc)} (hu : P.underlying t = some (.struct fs)) (hf : fs.toList.map (fun f => (f.type, f.offset)) = chain 0 l) (hc : P.cellsOf t = (l.flatMap (·.2)).length)
    (hl : ∀ f ∈ l, Lay P f.1 f.2) : Lay P t (l.flatMap (·.2)) := by
  refine ⟨hc, fun H enc w base spare held n cs y h => ?_⟩
  obtain ⟨xs, n', _, _, hlen, hxl, hx⟩ := DataW.trod_struct hu h
  refine ⟨by rw [hlen, hc], fun i s hi => ?_⟩
  obtain ⟨t', l', o', h1, h2, h3, h4, h5⟩ := chain_at l 0 i s hi
  rw [Nat.zero_add] at h4 h5
  rw [← hf] at h1
  obtain ⟨f, hfm, e⟩ := List.mem_map.1 h1
  simp only [Prod.mk.injEq] at e
  obtain ⟨rfl, rfl⟩ := e
  obtain ⟨j, hj⟩ := List.getElem?_of_mem hfm
  have hj' : fs[j]? = some f := by simpa using hj
  have hx := hx j f hj'
  have hil : j < xs.length := by rw [hxl]; exact (Array.getElem?_eq_some_iff.1 hj').1
  rw [List.getElem?_eq_getElem hil] at hx
  obtain ⟨g1, g2⟩ := hl _ h2
  obtain ⟨v, h6, h7⟩ := (g2 _ _ _ _ _ _ _ _ _ hx).2 _ _ h5
  refine ⟨v, ?_, h7⟩
  rw [List.getElem?_take] at h6
  split at h6
  · rw [List.getElem?_drop, show f.offset + (i - f.offset) = i by omega] at h6; exact h6
  · cases h6
theorem lay_array {n : Nat} {e : TypeId} {l : List Sc} (hu : P.underlying t = some (.array n e)) (hc : P.cellsOf t = n * l.length) (hl : Lay P e l) : Lay P t (List.replicate n l).flatten := by
  have hlen : (List.replicate n l).flatten.length = n * l.length := by simp
  refine ⟨by rw [hc, hlen], fun H enc w base spare held m cs y h => ?_⟩
  obtain ⟨xs, n', _, _, hcs, hxl, hx⟩ := DataW.trod_array hu h
  refine ⟨by rw [hcs, hc, hlen], fun i s hi => ?_⟩
  have hi2 : i < n * l.length := by rw [← hlen]; exact (List.getElem?_eq_some_iff.1 hi).1
  have hp : 0 < l.length := by rcases Nat.eq_zero_or_pos l.length with h | h; rw [h] at hi2; omega; exact h
  have hd : i / l.length < n := (Nat.div_lt_iff_lt_mul hp).2 hi2
  have hx := hx _ hd
  rw [List.getElem?_eq_getElem (by omega)] at hx
  rw [hl.1] at hx
  have key : ∀ (n i : Nat), (List.replicate n l).flatten[i]? = some s → l[i % l.length]? = some s := by
    intro n
    induction n with
    | zero => intro i h; simp at h
    | succ n ih =>
      intro i h
      rw [List.replicate_succ, List.flatten_cons] at h
      rcases Nat.lt_or_ge i l.length with hi | hi
      · rw [List.getElem?_append_left hi] at h
        rw [Nat.mod_eq_of_lt hi]; exact h
      · rw [List.getElem?_append_right hi] at h
        rw [Nat.mod_eq_sub_mod hi]; exact ih _ h
  obtain ⟨v, h6, h7⟩ := (hl.2 _ _ _ _ _ _ _ _ _ hx).2 _ _ (key n i hi)
  refine ⟨v, ?_, h7⟩
  rw [List.getElem?_take] at h6
  split at h6
  · rw [List.getElem?_drop] at h6
    rw [← h6]; congr 1
    rw [Nat.mul_comm]; exact (Nat.div_add_mod _ _).symm
  · cases h6
section
variable {H : Type} {enc : TypeId × Value → H} {w : World} {base : Nat} {spare : Nat → Bool} {held : Bool}
/-- An argument that is a struct or an array of scalars. -/
theorem open_lay {r : Reach} {b0 : Nat} {v : Value} {d : DataW H} {p : List MemPlace} {l : List Sc} (hL : Lay P t l) (hu : (∃ fs, P.underlying t = some (.struct fs)) ∨ ∃ n e, P.underlying t = some (.array n e))
    (hv : Value.okWide P w r b0 t v) (h : DataW.Trod enc P w base spare held t v d p) : ∃ cs : List Value, v = .agg cs.toArray ∧ cs.length = l.length ∧ ∀ (i : Nat) (s : Sc), l[i]? = some s → ∃ u, cs[i]? = some u ∧ s.ok u := by
  have hv' : ∃ cs, v = .agg cs := by
    rcases hu with ⟨fs, hu⟩ | ⟨n, e, hu⟩
    · simp only [Value.okWide, hu] at hv; obtain ⟨cs, h, _⟩ := hv; exact ⟨cs, h⟩
    · simp only [Value.okWide, hu] at hv; obtain ⟨cs, h, _⟩ := hv; exact ⟨cs, h⟩
  obtain ⟨cs, rfl⟩ := hv'
  obtain ⟨fuel, hx⟩ := h
  obtain ⟨h1, h2⟩ := hL.2 _ _ _ _ _ _ _ _ _ hx
  refine ⟨cs.toList, by simp, by simpa [Value.cells] using h1, fun i s hi => ?_⟩
  have := h2 i s hi
  simpa [Value.cells] using this
end
end Go.Proofs.Ytbpclhgbobiahaa
