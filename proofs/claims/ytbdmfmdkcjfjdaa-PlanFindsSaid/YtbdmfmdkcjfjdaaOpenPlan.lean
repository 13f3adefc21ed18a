/-
  An argument that is a plan: two rows of structs of three integers.
-/
import Derived.Test.YtbdmfmdkcjfjdaaBase
import Derived.Test.YtbdmfmdkcjfjdaaPlan0
import Derived.ChangeArms
namespace Go.Proofs.Ytbdmfmdkcjfjdaa
set_option linter.unusedVariables false
set_option linter.constructorNameAsVariable false
open Go.RowKit Go.WideShapes Go.ChangeShapes
theorem add_add (a : Addr) (m j : Nat) : (a.add m).add j = a.add (m + j) := by
  by_cases hm : m = 0
  · subst hm; simp [Addr.add]
  · by_cases hj : j = 0
    · subst hj; simp [Addr.add]
    · simp [Addr.add, hm, hj, Nat.add_assoc]
theorem len2 {l : List Value} (h : l.length = 2) : ∃ a b, l = [a, b] := by
  match l, h with
  | [a, b], _ => exact ⟨a, b, rfl⟩
theorem len3 {l : List Value} (h : l.length = 3) : ∃ a b c, l = [a, b, c] := by
  match l, h with
  | [a, b, c], _ => exact ⟨a, b, c, rfl⟩
section
variable {H : Type} {enc : TypeId × Value → H} {P : Program} {w : World} {base : Nat} {spare : Nat → Bool} {held : Bool}
/-- A row of elements, each of three cells. -/
theorem trod_rows {α : Type} {f : α → List Value} {Q : α → Prop} {t e : TypeId} {n : Nat} {cs : List Value} {y : DataW H × List MemPlace} (ht : P.underlying t = some (.slice e)) (hc : P.cellsOf e = 3) (hf3 : ∀ a, (f a).length = 3)
    (hE : ∀ (n : Nat) cs x, DataW.trod enc P w base spare held n e cs = some x → ∃ a, cs = f a ∧ Q a) (h : DataW.trod enc P w base spare held n t cs = some y) :
    ∃ (A : Option Addr) (cap : Nat) (L : List α), cs = [.slice A L.length cap] ∧ L.length ≤ cap ∧ cap ≤ maxLen ∧ (∀ a ∈ L, Q a) ∧ Row w A (L.flatMap f) := by
  rcases DataW.trod_slice ht h with ⟨rfl, _⟩ | ⟨a, len, cap, elems, rest, n', _, rfl, _, hb, hl, hm, hlen, hel, _⟩
  · exact ⟨none, 0, [], rfl, Nat.le_refl _, Nat.zero_le _, by simp, Row.nil_ _ _⟩
  · have each : ∀ i, i < len → ∃ v : α, Q v ∧ ∀ j u, (f v)[j]? = some u → w.cell? (a.add (i * 3 + j)) = some u := by
      intro i hi
      have h1 := hel i hi
      have h2 : elems[i]? = some elems[i] := List.getElem?_eq_getElem (by omega)
      rw [h2, Option.bind_eq_some_iff] at h1
      obtain ⟨cs', h3, h4⟩ := h1
      obtain ⟨v, rfl, hq⟩ := hE _ _ _ h4
      refine ⟨v, hq, fun j u hj => ?_⟩
      have h5 := World.cells?_some h3
      rw [hc] at h5
      have hj3 : j < 3 := by have := (List.getElem?_eq_some_iff.1 hj).1; rw [hf3] at this; exact this
      have := h5.2.2 j hj3
      rw [hj] at this
      rw [← this, add_add]
    have choose : ∀ k, k ≤ len → ∃ L : List α, L.length = k ∧ (∀ v ∈ L, Q v) ∧ ∀ i v, L[i]? = some v → ∀ j u, (f v)[j]? = some u → w.cell? (a.add (i * 3 + j)) = some u := by
      intro k
      induction k with
      | zero => exact fun _ => ⟨[], rfl, by simp, by simp⟩
      | succ k ih =>
        intro hk
        obtain ⟨L, h1, h2, h3⟩ := ih (by omega)
        obtain ⟨v, h4, h5⟩ := each k (by omega)
        refine ⟨L ++ [v], by simp [h1], fun u hu => ?_, fun i u hi => ?_⟩
        · rcases List.mem_append.1 hu with hu | hu
          · exact h2 u hu
          · obtain rfl := List.mem_singleton.1 hu; exact h4
        · rw [List.getElem?_append] at hi
          split at hi
          · exact h3 i u hi
          · rename_i hik
            have : i - L.length = 0 := by
              by_cases h0 : i - L.length = 0
              · exact h0
              · rw [List.getElem?_eq_none (by simp; omega)] at hi; cases hi
            rw [this] at hi
            obtain rfl : v = u := by simpa using hi
            obtain rfl : i = k := by omega
            exact h5
    obtain ⟨L, h1, h2, h3⟩ := choose len (Nat.le_refl _)
    refine ⟨some a, cap, L, by rw [h1], by omega, hm, h2, Row.of_cells fun j v hv => ?_⟩
    have hj : j < L.length * 3 := by have := (List.getElem?_eq_some_iff.1 hv).1; rwa [flat3_len f hf3] at this
    have hi : j / 3 < L.length := by omega
    have hg : L[j / 3]? = some L[j / 3] := List.getElem?_eq_getElem hi
    have hat := flat3_at f hf3 L (j / 3) _ hg
    have := h3 (j / 3) _ hg (j % 3) v (by
      rw [← hat, List.getElem?_take, if_pos (Nat.mod_lt _ (by omega)), List.getElem?_drop, show j / 3 * 3 + j % 3 = j by omega]; exact hv)
    rwa [show j / 3 * 3 + j % 3 = j by omega] at this
/-- Fields of a struct. -/
theorem trod_flds {fs : Array Field} {t : TypeId} {n : Nat} {cs : List Value} {y : DataW H × List MemPlace} {l : List (TypeId × Nat)} (hu : P.underlying t = some (.struct fs)) (hfs : fs.toList.map (fun f => (f.type, f.offset)) = l)
    (h : DataW.trod enc P w base spare held n t cs = some y) : cs.length = P.cellsOf t ∧ ∀ u o, (u, o) ∈ l → ∃ n' x, DataW.trod enc P w base spare held n' u ((cs.drop o).take (P.cellsOf u)) = some x := by
  obtain ⟨xs, n', _, _, hlen, hxl, hx⟩ := DataW.trod_struct hu h
  refine ⟨hlen, fun u o hm => ?_⟩
  rw [← hfs] at hm
  obtain ⟨f, hf, e⟩ := List.mem_map.1 hm
  simp only [Prod.mk.injEq] at e
  obtain ⟨rfl, rfl⟩ := e
  obtain ⟨i, hi⟩ := List.getElem?_of_mem hf
  have hi' : fs[i]? = some f := by simpa using hi
  have := hx i f hi'
  have hil : i < xs.length := by rw [hxl]; exact (Array.getElem?_eq_some_iff.1 hi').1
  rw [List.getElem?_eq_getElem hil] at this
  exact ⟨n', _, this⟩
end
section
variable {H : Type} {enc : TypeId × Value → H} {w : World} {base : Nat} {spare : Nat → Bool} {held : Bool}
theorem wf64 {n : Int} (h : (Lit.int .i64 n).wf = true) : -9223372036854775808 ≤ n ∧ n ≤ 9223372036854775807 := bounds_i64 h
def In64 (n : Int) : Prop := -9223372036854775808 ≤ n ∧ n ≤ 9223372036854775807
theorem trod_pt {n : Nat} {cs : List Value} {y : DataW H × List MemPlace} (h : DataW.trod enc Try.prog w base spare held n 38 cs = some y) : ∃ a b, cs = [.int .i64 a, .int .i64 b] ∧ In64 a ∧ In64 b := by
  have hu : Try.prog.underlying 38 = some (.struct (Try.prog.fieldsOf 38)) := by kernel_rfl
  have hf : (Try.prog.fieldsOf 38).toList.map (fun f => (f.type, f.offset)) = [(3, 0), (3, 1)] := by kernel_rfl
  have hi : Try.prog.underlying 3 = some (.int .i64) := by kernel_rfl
  have hc : Try.prog.cellsOf 3 = 1 := by kernel_rfl
  have hC : Try.prog.cellsOf 38 = 2 := by kernel_rfl
  obtain ⟨hl, hx⟩ := trod_flds hu hf h
  rw [hC] at hl
  obtain ⟨c0, c1, rfl⟩ := len2 hl
  obtain ⟨_, _, h0⟩ := hx 3 0 (by simp)
  obtain ⟨_, _, h1⟩ := hx 3 1 (by simp)
  rw [hc] at h0 h1
  obtain ⟨a, ea, _, wa⟩ := DataW.trod_int hi h0
  obtain ⟨b, eb, _, wb⟩ := DataW.trod_int hi h1
  simp at ea eb
  subst ea eb
  exact ⟨a, b, rfl, bounds_i64 wa, bounds_i64 wb⟩
theorem trod_vt (n : Nat) (cs : List Value) (y : DataW H × List MemPlace) (h : DataW.trod enc Try.prog w base spare held n 40 cs = some y) : ∃ v : Vt, cs = t3 v.id v.p.x v.p.y ∧ (In64 v.id ∧ In64 v.p.x ∧ In64 v.p.y) := by
  have hu : Try.prog.underlying 40 = some (.struct (Try.prog.fieldsOf 40)) := by kernel_rfl
  have hf : (Try.prog.fieldsOf 40).toList.map (fun f => (f.type, f.offset)) = [(3, 0), (38, 1)] := by kernel_rfl
  have hi : Try.prog.underlying 3 = some (.int .i64) := by kernel_rfl
  have hc : Try.prog.cellsOf 3 = 1 := by kernel_rfl
  have hc2 : Try.prog.cellsOf 38 = 2 := by kernel_rfl
  have hC : Try.prog.cellsOf 40 = 3 := by kernel_rfl
  obtain ⟨hl, hx⟩ := trod_flds hu hf h
  rw [hC] at hl
  obtain ⟨c0, c1, c2, rfl⟩ := len3 hl
  obtain ⟨_, _, h0⟩ := hx 3 0 (by simp)
  obtain ⟨_, _, h1⟩ := hx 38 1 (by simp)
  rw [hc] at h0
  rw [hc2] at h1
  obtain ⟨a, ea, _, wa⟩ := DataW.trod_int hi h0
  obtain ⟨b, c, eb, wb, wc⟩ := trod_pt h1
  simp at ea eb
  obtain ⟨e1, e2⟩ := eb
  subst ea e1 e2
  exact ⟨⟨a, ⟨b, c⟩⟩, rfl, bounds_i64 wa, wb, wc⟩
theorem trod_eg (n : Nat) (cs : List Value) (y : DataW H × List MemPlace) (h : DataW.trod enc Try.prog w base spare held n 45 cs = some y) : ∃ v : Eg, cs = t3 v.id v.a v.b ∧ (In64 v.id ∧ In64 v.a ∧ In64 v.b) := by
  have hu : Try.prog.underlying 45 = some (.struct (Try.prog.fieldsOf 45)) := by kernel_rfl
  have hf : (Try.prog.fieldsOf 45).toList.map (fun f => (f.type, f.offset)) = [(3, 0), (3, 1), (3, 2)] := by kernel_rfl
  have hi : Try.prog.underlying 3 = some (.int .i64) := by kernel_rfl
  have hc : Try.prog.cellsOf 3 = 1 := by kernel_rfl
  have hC : Try.prog.cellsOf 45 = 3 := by kernel_rfl
  obtain ⟨hl, hx⟩ := trod_flds hu hf h
  rw [hC] at hl
  obtain ⟨c0, c1, c2, rfl⟩ := len3 hl
  obtain ⟨_, _, h0⟩ := hx 3 0 (by simp)
  obtain ⟨_, _, h1⟩ := hx 3 1 (by simp)
  obtain ⟨_, _, h2⟩ := hx 3 2 (by simp)
  rw [hc] at h0 h1 h2
  obtain ⟨a, ea, _, wa⟩ := DataW.trod_int hi h0
  obtain ⟨b, eb, _, wb⟩ := DataW.trod_int hi h1
  obtain ⟨c, ec, _, wc⟩ := DataW.trod_int hi h2
  simp at ea eb ec
  subst ea eb ec
  exact ⟨⟨a, b, c⟩, rfl, bounds_i64 wa, bounds_i64 wb, bounds_i64 wc⟩
theorem row_sl {A : Option Addr} {xs : List Value} (h : Row w A xs) : Sl (fun _ => False) w A xs := by
  by_cases hp : 0 < xs.length
  · obtain ⟨b, off, rfl, hc⟩ := h hp
    have h0 := hc 0 _ (List.getElem?_eq_getElem hp)
    exact ⟨b, off, fun _ => ⟨rfl, World.block_lt_of_cell? w _ h0, id⟩, hc⟩
  · have : xs = [] := by cases xs with | nil => rfl | cons => simp at hp
    subst this
    exact Sl.nil_ _ _ _
/-- What is handed over in an argument that is a plan. -/
structure PlArg (w : World) (A A2 : Option Addr) (c c2 : Nat) (vs : List Vt) (es : List Eg) : Prop where
  sv : Sl (fun _ => False) w A (vR vs)
  se : Sl (fun _ => False) w A2 (eR es)
  cv : vs.length ≤ c ∧ c ≤ maxLen
  ce : es.length ≤ c2 ∧ c2 ≤ maxLen
  wv : ∀ v ∈ vs, In64 v.id ∧ In64 v.p.x ∧ In64 v.p.y
  we : ∀ e ∈ es, In64 e.id ∧ In64 e.a ∧ In64 e.b
theorem open_plan {r : Reach} {b0 : Nat} {v : Value} {d : DataW H} {p : List MemPlace} (hv : Value.okWide Try.prog w r b0 25 v) (h : DataW.Trod enc Try.prog w base spare held 25 v d p) :
    ∃ A A2 c c2 vs es, v = .agg #[.slice A (vs : List Vt).length c, .slice A2 (es : List Eg).length c2] ∧ PlArg w A A2 c c2 vs es := by
  have hu : Try.prog.underlying 25 = some (.struct (Try.prog.fieldsOf 25)) := by kernel_rfl
  have hf : (Try.prog.fieldsOf 25).toList.map (fun f => (f.type, f.offset)) = [(22, 0), (23, 1)] := by kernel_rfl
  have hC : Try.prog.cellsOf 25 = 2 := by kernel_rfl
  have hc1 : Try.prog.cellsOf 22 = 1 := by kernel_rfl
  have hc2 : Try.prog.cellsOf 23 = 1 := by kernel_rfl
  have hs1 : Try.prog.underlying 22 = some (.slice 40) := by kernel_rfl
  have hs2 : Try.prog.underlying 23 = some (.slice 45) := by kernel_rfl
  simp only [Value.okWide, hu] at hv
  obtain ⟨cs, rfl, hsz, _⟩ := hv
  obtain ⟨fuel, hx⟩ := h
  obtain ⟨hl, hx⟩ := trod_flds hu hf hx
  rw [hC] at hsz
  obtain ⟨l⟩ := cs
  simp only [List.size_toArray] at hsz
  obtain ⟨e0, e1, rfl⟩ := len2 hsz
  obtain ⟨_, _, h0⟩ := hx 22 0 (by simp)
  obtain ⟨_, _, h1⟩ := hx 23 1 (by simp)
  rw [hc1] at h0
  rw [hc2] at h1
  obtain ⟨A, c, vs, k1, k2, k3, k4, k5⟩ := trod_rows hs1 (by kernel_rfl) (fun _ => rfl) trod_vt h0
  obtain ⟨A2, c2, es, l1, l2, l3, l4, l5⟩ := trod_rows hs2 (by kernel_rfl) (fun _ => rfl) trod_eg h1
  simp [Value.cells] at k1 l1
  subst k1 l1
  exact ⟨A, A2, c, c2, vs, es, rfl, row_sl k5, row_sl l5, ⟨k2, k3⟩, ⟨l2, l3⟩, k4, l4⟩
theorem open_pt {r : Reach} {b0 : Nat} {v : Value} {d : DataW H} {p : List MemPlace} (hv : Value.okWide Try.prog w r b0 38 v) (h : DataW.Trod enc Try.prog w base spare held 38 v d p) :
    ∃ a b, v = pV a b ∧ In64 a ∧ In64 b := by
  have hu : Try.prog.underlying 38 = some (.struct (Try.prog.fieldsOf 38)) := by kernel_rfl
  simp only [Value.okWide, hu] at hv
  obtain ⟨cs, rfl, hsz, _⟩ := hv
  obtain ⟨fuel, hx⟩ := h
  obtain ⟨a, b, e, wa, wb⟩ := trod_pt hx
  obtain ⟨l⟩ := cs
  simp [Value.cells] at e
  subst e
  exact ⟨a, b, rfl, wa, wb⟩
end
end Go.Proofs.Ytbdmfmdkcjfjdaa
