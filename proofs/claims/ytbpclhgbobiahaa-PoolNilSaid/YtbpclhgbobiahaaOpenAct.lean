/-
  Arguments that are calls of a pool, one or many: structs of a byte, a whole number and a text.
-/
import Derived.Test.YtbpclhgbobiahaaBase
import Derived.Test.YtbpclhgbobiahaaOwn5
import Derived.Test.YtbpclhgbobiahaaRows
import Derived.ChangeArms
import Derived.ChangeMaps
namespace Go.Proofs.Ytbpclhgbobiahaa
set_option linter.unusedVariables false
set_option linter.constructorNameAsVariable false
open Go.RowKit Go.WideShapes Go.ChangeShapes
theorem flat3_len {α : Type} (f : α → List Value) (hf : ∀ a, (f a).length = 3) : ∀ l : List α, (l.flatMap f).length = l.length * 3
  | [] => rfl
  | a :: l => by simp only [List.flatMap_cons, List.length_append, hf, flat3_len f hf l, List.length_cons]; omega
theorem flat3_at {α : Type} (f : α → List Value) (hf : ∀ a, (f a).length = 3) : ∀ (l : List α) (k : Nat) (a : α), l[k]? = some a → ((l.flatMap f).drop (k * 3)).take 3 = f a
  | [], k, a, h => by simp at h
  | b :: l, 0, a, h => by
    obtain rfl : b = a := by simpa using h
    simp only [List.flatMap_cons, Nat.zero_mul, List.drop_zero]
    rw [List.take_append_of_le_length (by rw [hf]; exact Nat.le_refl _), List.take_of_length_le (by rw [hf]; exact Nat.le_refl _)]
  | b :: l, k + 1, a, h => by
    have := flat3_at f hf l k a (by simpa using h)
    rw [List.flatMap_cons, show (k + 1) * 3 = 3 + k * 3 by omega, ← List.drop_drop]
    rw [List.drop_append_of_le_length (by rw [hf]; exact Nat.le_refl _), List.drop_of_length_le (l := f b) (by rw [hf]; exact Nat.le_refl _), List.nil_append]
    exact this
theorem add_add (a : Addr) (m j : Nat) : (a.add m).add j = a.add (m + j) := by
  by_cases hm : m = 0
  · subst hm; simp [Addr.add]
  · by_cases hj : j = 0
    · subst hj; simp [Addr.add]
    · simp [Addr.add, hm, hj, Nat.add_assoc]
theorem len2 {l : List Value} (h : l.length = 2) : ∃ a b, l = [a, b] := by
  match l, h with
  | [a, b], _ => exact ⟨a, b, rfl⟩
theorem len3 {l : List Value} (h : l.length = 3) : ∃ a b c, l = [a, b, c] := by
  match l, h with
  | [a, b, c], _ => exact ⟨a, b, c, rfl⟩
section
variable {H : Type} {enc : TypeId × Value → H} {P : Program} {w : World} {base : Nat} {spare : Nat → Bool} {held : Bool}
/-- A row of elements, each of three cells. -/
theorem trod_rows {α : Type} {f : α → List Value} {Q : α → Prop} {t e : TypeId} {n : Nat} {cs : List Value} {y : DataW H × List MemPlace} (ht : P.underlying t = some (.slice e)) (hc : P.cellsOf e = 3) (hf3 : ∀ a, (f a).length = 3)
    (hE : ∀ (n : Nat) cs x, DataW.trod enc P w base spare held n e cs = some x → ∃ a, cs = f a ∧ Q a) (h : DataW.trod enc P w base spare held n t cs = some y) :
    ∃ (A : Option Addr) (cap : Nat) (L : List α), cs = [.slice A L.length cap] ∧ L.length ≤ cap ∧ cap ≤ maxLen ∧ (∀ a ∈ L, Q a) ∧ Row w A (L.flatMap f) := by
  rcases DataW.trod_slice ht h with ⟨rfl, _⟩ | ⟨a, len, cap, elems, rest, n', _, rfl, _, hb, hl, hm, hlen, hel, _⟩
  · exact ⟨none, 0, [], rfl, Nat.le_refl _, Nat.zero_le _, by simp, Row.nil_ _ _⟩
  · have each : ∀ i, i < len → ∃ v : α, Q v ∧ ∀ j u, (f v)[j]? = some u → w.cell? (a.add (i * 3 + j)) = some u := by
      intro i hi
      have h1 := hel i hi
      have h2 : elems[i]? = some elems[i] := List.getElem?_eq_getElem (by omega)
      rw [h2, Option.bind_eq_some_iff] at h1
      obtain ⟨cs', h3, h4⟩ := h1
      obtain ⟨v, rfl, hq⟩ := hE _ _ _ h4
      refine ⟨v, hq, fun j u hj => ?_⟩
      have h5 := World.cells?_some h3
      rw [hc] at h5
      have hj3 : j < 3 := by have := (List.getElem?_eq_some_iff.1 hj).1; rw [hf3] at this; exact this
      have := h5.2.2 j hj3
      rw [hj] at this
      rw [← this, add_add]
    have choose : ∀ k, k ≤ len → ∃ L : List α, L.length = k ∧ (∀ v ∈ L, Q v) ∧ ∀ i v, L[i]? = some v → ∀ j u, (f v)[j]? = some u → w.cell? (a.add (i * 3 + j)) = some u := by
      intro k
      induction k with
      | zero => exact fun _ => ⟨[], rfl, by simp, by simp⟩
      | succ k ih =>
        intro hk
        obtain ⟨L, h1, h2, h3⟩ := ih (by omega)
        obtain ⟨v, h4, h5⟩ := each k (by omega)
        refine ⟨L ++ [v], by simp [h1], fun u hu => ?_, fun i u hi => ?_⟩
        · rcases List.mem_append.1 hu with hu | hu
          · exact h2 u hu
          · obtain rfl := List.mem_singleton.1 hu; exact h4
        · rw [List.getElem?_append] at hi
          split at hi
          · exact h3 i u hi
          · rename_i hik
            have : i - L.length = 0 := by
              by_cases h0 : i - L.length = 0
              · exact h0
              · rw [List.getElem?_eq_none (by simp; omega)] at hi; cases hi
            rw [this] at hi
            obtain rfl : v = u := by simpa using hi
            obtain rfl : i = k := by omega
            exact h5
    obtain ⟨L, h1, h2, h3⟩ := choose len (Nat.le_refl _)
    refine ⟨some a, cap, L, by rw [h1], by omega, hm, h2, Row.of_cells fun j v hv => ?_⟩
    have hj : j < L.length * 3 := by have := (List.getElem?_eq_some_iff.1 hv).1; rwa [flat3_len f hf3] at this
    have hi : j / 3 < L.length := by omega
    have hg : L[j / 3]? = some L[j / 3] := List.getElem?_eq_getElem hi
    have hat := flat3_at f hf3 L (j / 3) _ hg
    have := h3 (j / 3) _ hg (j % 3) v (by
      rw [← hat, List.getElem?_take, if_pos (Nat.mod_lt _ (by omega)), List.getElem?_drop, show j / 3 * 3 + j % 3 = j by omega]; exact hv)
    rwa [show j / 3 * 3 + j % 3 = j by omega] at this
/-- Fields of a struct. -/
theorem trod_flds {fs : Array Field} {t : TypeId} {n : Nat} {cs : List Value} {y : DataW H × List MemPlace} {l : List (TypeId × Nat)} (hu : P.underlying t = some (.struct fs)) (hfs : fs.toList.map (fun f => (f.type, f.offset)) = l)
    (h : DataW.trod enc P w base spare held n t cs = some y) : cs.length = P.cellsOf t ∧ ∀ u o, (u, o) ∈ l → ∃ n' x, DataW.trod enc P w base spare held n' u ((cs.drop o).take (P.cellsOf u)) = some x := by
  obtain ⟨xs, n', _, _, hlen, hxl, hx⟩ := DataW.trod_struct hu h
  refine ⟨hlen, fun u o hm => ?_⟩
  rw [← hfs] at hm
  obtain ⟨f, hf, e⟩ := List.mem_map.1 hm
  simp only [Prod.mk.injEq] at e
  obtain ⟨rfl, rfl⟩ := e
  obtain ⟨i, hi⟩ := List.getElem?_of_mem hf
  have hi' : fs[i]? = some f := by simpa using hi
  have := hx i f hi'
  have hil : i < xs.length := by rw [hxl]; exact (Array.getElem?_eq_some_iff.1 hi').1
  rw [List.getElem?_eq_getElem hil] at this
  exact ⟨n', _, this⟩
end
section
variable {H : Type} {enc : TypeId × Value → H} {w : World} {base : Nat} {spare : Nat → Bool} {held : Bool}
theorem row_sl {A : Option Addr} {xs : List Value} (h : Row w A xs) : Sl (fun _ => False) w A xs := by
  by_cases hp : 0 < xs.length
  · obtain ⟨b, off, rfl, hc⟩ := h hp
    have h0 := hc 0 _ (List.getElem?_eq_getElem hp)
    exact ⟨b, off, fun _ => ⟨rfl, World.block_lt_of_cell? w _ h0, id⟩, hc⟩
  · have : xs = [] := by cases xs with | nil => rfl | cons => simp at hp
    subst this
    exact Sl.nil_ _ _ _
theorem slice_form (P : Program) {r : Reach} {b0 : Nat} {t e : TypeId} (ht : P.underlying t = some (.slice e)) (v : Value) (hv : Value.okWide P w r b0 t v) : ∃ a len cap, v = .slice a len cap := okWide_slice ht hv
/-- A call of a pool. -/
structure Ac where
  d : Int
  no : Int
  s : ByteArray
abbrev aR (a : Ac) : List Value := [.int .u8 a.d, .int .i64 a.no, .string a.s]
def In64 (n : Int) : Prop := -9223372036854775808 ≤ n ∧ n ≤ 9223372036854775807
def AcOk (a : Ac) : Prop := (0 ≤ a.d ∧ a.d ≤ 255) ∧ In64 a.no
theorem trod_ac (n : Nat) (cs : List Value) (y : DataW H × List MemPlace) (h : DataW.trod enc Try.prog w base spare held n 60 cs = some y) : ∃ v : Ac, cs = aR v ∧ AcOk v := by
  have hu : Try.prog.underlying 60 = some (.struct (Try.prog.fieldsOf 60)) := by kernel_rfl
  have hf : (Try.prog.fieldsOf 60).toList.map (fun f => (f.type, f.offset)) = [(5, 0), (3, 1), (9, 2)] := by kernel_rfl
  have hi : Try.prog.underlying 3 = some (.int .i64) := by kernel_rfl
  have hi8 : Try.prog.underlying 5 = some (.int .u8) := by kernel_rfl
  have his : Try.prog.underlying 9 = some .string := by kernel_rfl
  have hc : Try.prog.cellsOf 3 = 1 := by kernel_rfl
  have hc8 : Try.prog.cellsOf 5 = 1 := by kernel_rfl
  have hcs : Try.prog.cellsOf 9 = 1 := by kernel_rfl
  have hC : Try.prog.cellsOf 60 = 3 := by kernel_rfl
  obtain ⟨hl, hx⟩ := trod_flds hu hf h
  rw [hC] at hl
  obtain ⟨c0, c1, c2, rfl⟩ := len3 hl
  obtain ⟨_, _, h0⟩ := hx 5 0 (by simp)
  obtain ⟨_, _, h1⟩ := hx 3 1 (by simp)
  obtain ⟨_, _, h2⟩ := hx 9 2 (by simp)
  rw [hc8] at h0
  rw [hc] at h1
  rw [hcs] at h2
  obtain ⟨a, ea, _, wa⟩ := DataW.trod_int hi8 h0
  obtain ⟨b, eb, _, wb⟩ := DataW.trod_int hi h1
  obtain ⟨c, ec, _⟩ := DataW.trod_string his h2
  simp at ea eb ec
  subst ea eb ec
  exact ⟨⟨a, b, c⟩, rfl, bounds_u8 wa, bounds_i64 wb⟩
def aRs (l : List Ac) : List Value := l.flatMap aR
set_option maxRecDepth 100000 in
theorem open_acts {r : Reach} {b0 : Nat} {v : Value} {d : DataW H} {p : List MemPlace} (hv : Value.okWide Try.prog w r b0 53 v) (h : DataW.Trod enc Try.prog w base spare held 53 v d p) :
    ∃ A c L, v = .slice A (L : List Ac).length c ∧ L.length ≤ c ∧ c ≤ maxLen ∧ (∀ a ∈ L, AcOk a) ∧ Sl (fun _ => False) w A (aRs L) := by
  have hs1 : Try.prog.underlying 53 = some (.slice 60) := by kernel_rfl
  have hC : Try.prog.cellsOf 60 = 3 := by kernel_rfl
  obtain ⟨fuel, hx⟩ := h
  obtain ⟨A, cap, L, e, h1, h2, h3, h4⟩ := trod_rows hs1 hC (fun _ => rfl) trod_ac hx
  have key := @slice_form w Try.prog r b0 53 60 hs1 v hv
  clear hv
  obtain ⟨A0, l0, c0, hv2⟩ := key
  subst hv2
  simp [Value.cells] at e
  obtain ⟨rfl, rfl, rfl⟩ := e
  exact ⟨_, _, L, rfl, h1, h2, h3, row_sl h4⟩
theorem open_act {r : Reach} {b0 : Nat} {v : Value} {d : DataW H} {p : List MemPlace} (hv : Value.okWide Try.prog w r b0 60 v) (h : DataW.Trod enc Try.prog w base spare held 60 v d p) :
    ∃ a : Ac, v = .agg #[.int .u8 a.d, .int .i64 a.no, .string a.s] ∧ AcOk a := by
  have hu : Try.prog.underlying 60 = some (.struct (Try.prog.fieldsOf 60)) := by kernel_rfl
  simp only [Value.okWide, hu] at hv
  obtain ⟨cs, rfl, hsz, _⟩ := hv
  obtain ⟨fuel, hx⟩ := h
  obtain ⟨a, e, wa⟩ := trod_ac _ _ _ hx
  obtain ⟨l⟩ := cs
  simp only [Value.cells] at e
  subst e
  exact ⟨a, rfl, wa⟩
end
end Go.Proofs.Ytbpclhgbobiahaa
