/-
  General lemmas of this claim's own: worlds, rows of cells, the row's last step for a law. Nothing of the program stands here.
-/
import Derived.WalkKit
import Derived.WalkSpells
import Derived.WalkLawsBesides
import Derived.ProofKit
import Derived.OpenShut
import Derived.ShutString
import Derived.Lib.Hide
import Derived.Deep.Draws
import Derived.Handy
import Derived.SliceStrings
import Derived.Deep.QuietTactic
import Derived.BigQuiet
namespace Go.Proofs.Ytlhmjhildlnokaa
set_option linter.unusedVariables false
open Go.RowKit Go.WideShapes Go.ChangeShapes

/-! ### A later world -/
/-- A later world: what lay below B is as it was; what it has drawn, it has drawn behind what was drawn. -/
structure Below (B : Nat) (w w' : World) : Prop where
  kit : Go.RowKit.Below B w w'
  drawn : w.drawn ≤ w'.drawn
theorem Below.os {B : Nat} {w w' : World} (h : Below B w w') : w'.os = w.os := h.kit.os
theorem Below.tape {B : Nat} {w w' : World} (h : Below B w w') : w'.tape = w.tape := h.kit.tape
theorem Below.output {B : Nat} {w w' : World} (h : Below B w w') : w'.output = w.output := h.kit.output
theorem Below.size {B : Nat} {w w' : World} (h : Below B w w') : w.heap.size ≤ w'.heap.size := h.kit.size
theorem Below.block {B : Nat} {w w' : World} (h : Below B w w') : ∀ k, k < B → w'.heap[k]? = w.heap[k]? := h.kit.block
theorem Below.mk6 {B : Nat} {w w' : World} (h1 : w'.os = w.os) (h2 : w'.tape = w.tape) (h3 : w'.output = w.output) (h4 : w.heap.size ≤ w'.heap.size) (h5 : ∀ k, k < B → w'.heap[k]? = w.heap[k]?) (h6 : w.drawn ≤ w'.drawn) : Below B w w' := ⟨⟨h1, h2, h3, h4, h5⟩, h6⟩
theorem Below.refl (B : Nat) (w : World) : Below B w w := ⟨Go.RowKit.Below.refl _ _, Nat.le_refl _⟩
theorem Below.trans {B : Nat} {a b c : World} (h : Below B a b) (k : Below B b c) : Below B a c := ⟨h.kit.trans k.kit, Nat.le_trans h.drawn k.drawn⟩
theorem Below.mono {B B' : Nat} {w w' : World} (h : Below B w w') (hB : B' ≤ B) : Below B' w w' := ⟨h.kit.mono hB, h.drawn⟩
theorem Below.drew {B : Nat} {a w : World} (h : Below B a w) : Below B a w.drew := ⟨h.kit.drew, Nat.le_trans h.drawn (Nat.le_succ _)⟩
theorem Below.alloc {B : Nat} {a w : World} (h : Below B a w) (hB : B ≤ w.heap.size) (o : Obj) : Below B a (w.alloc o) := ⟨h.kit.alloc hB o, h.drawn⟩
theorem Below.setCell {B : Nat} {a w : World} (h : Below B a w) {p : Addr} (hp : B ≤ p.block) (u : Value) : Below B a (w.setCell p u) := ⟨h.kit.setCell hp u, h.drawn⟩
theorem Below.cell {B : Nat} {w w' : World} (h : Below B w w') {p : Addr} (hp : p.block < B) : w'.cell? p = w.cell? p := h.kit.cell hp
theorem Below.frozen {B : Nat} {w w' : World} (h : Below B w w') {p : Addr} (hp : p.block < B) : w'.frozen? p = w.frozen? p := h.kit.frozen hp
theorem Below.frame {W w' : World} (h : Below W.heap.size W w') (may : MemPlace → Prop) : W.keptBut w' may := h.kit.frame may
theorem Below.same {W w' : World} (h : Below W.heap.size W w') {p : MemPlace} (hp : p.block < W.heap.size) : W.sameAt w' p := h.kit.same hp

/-! ### make with a variable size -/
/-- make, at sizes that are natural numbers: a new row of zero cells. -/
theorem make_nat {P : Program} (t e : TypeId) (i : TypeInfo) (z : Value) (size bytes : Nat) (ht : P.underlying t = some (.slice e)) (hi : P.info? e = some i) (hz : i.zero = some z) (hs : i.size = size) (hy : i.bytes = bytes)
    (n c : Nat) (hnc : n ≤ c) (hb : (bytes : Int) * c ≤ 281474976710656) (hm : c ≤ 9223372036854775807) (w : World) :
    (Instr.makeSlice t (.int .i64 (n : Int)) (.int .i64 (c : Int))).run P w = .ok (.slice (some ⟨w.heap.size, 0, none⟩) n c) (w.alloc (.cells (madeCells z.cells (c * size)) e)) := by
  subst hs hy
  simpa using run_make (P := P) w t e i z ht hi hz .i64 .i64 n c (by omega) (by omega) hb (by omega)

/-- A row of n cells, the first i of them written by f, the others z. -/
def rowC (f : Nat → Value) (z : Value) (n i : Nat) : Array Value := ((List.range n).map fun j => if j < i then f j else z).toArray
theorem rowC_zero (f : Nat → Value) (z : Value) (n : Nat) : madeCells #[z] n = rowC f z n 0 := by
  apply Array.ext
  · simp [madeCells, rowC]
  · intro i h1 h2
    simp [madeCells, rowC, Nat.mod_one]
theorem rowC_set (f : Nat → Value) (z : Value) (n i : Nat) : (rowC f z n i).setIfInBounds i (f i) = rowC f z n (i+1) := by
  apply Array.ext
  · simp [rowC]
  · intro j h1 h2
    rw [Array.getElem_setIfInBounds (by simpa using h1)]
    by_cases h : i = j
    · subst h; simp [rowC]
    · rw [if_neg h]
      have : (j < i) ↔ (j < i + 1) := by omega
      simp [rowC, this]
theorem rowC_get (f : Nat → Value) (z : Value) (n i k : Nat) (h : k < n) : (rowC f z n i)[k]? = some (if k < i then f k else z) := by
  simp [rowC, h]
theorem rowC_at (f : Nat → Value) (z : Value) (n k : Nat) (h : k < n) : (rowC f z n k)[k]? = some z := by
  simp [rowC, h]
theorem rowC_full (f : Nat → Value) (z : Value) (n : Nat) : rowC f z n n = ((List.range n).map f).toArray := by
  unfold rowC
  congr 1
  apply List.map_congr_left
  intro a ha
  rw [if_pos (List.mem_range.1 ha)]

/-! ### The row's last step: a law answers true, and of what was there nothing has turned -/
section
variable {H : Type} {enc : TypeId × Value → H} {P : Program}
/-- An argument reads behind the call as it did, whatever it is: for any choice of spare places that lets the places met by. -/
theorem below_trod {t : TypeId} (hl : laidOutB P = true) (hr : P.readableRec t = true) (hrow : t < P.types.size) {W W' : World} {v : Value} {d : DataW H} {ps : List MemPlace} (sp : Nat → Bool)
    (h : DataW.Trod enc P W 0 (fun _ => true) true t v d ps) (hb : Below W.heap.size W W') (hlt : ∀ x ∈ ps, x.block < W.heap.size) (hsp : ∀ x ∈ ps, sp x.block = true) :
    DataW.Trod enc P W' 0 sp true t v d ps :=
  WideElems.Trod_stays hl hr hrow h (fun x hx => hb.same (hlt x hx)) hsp
end

section
variable {H : Type} {enc : TypeId × Value → H} {P : Program}
/-- All arguments read behind the call as they did. -/
theorem trodAll_keep (hl : laidOutB P = true) {W W' : World} (hb : Below W.heap.size W W') (sp : Nat → Bool) : ∀ {ts : List TypeId} {vs : List Value} {ds : List (DataW H)} {ps : List MemPlace},
    (∀ t ∈ ts, P.readableRec t = true ∧ t < P.types.size) → DataW.TrodAll enc P W 0 (fun _ => true) true ts vs ds ps → (∀ x ∈ ps, x.block < W.heap.size) → (∀ x ∈ ps, sp x.block = true) → DataW.TrodAll enc P W' 0 sp true ts vs ds ps := by
  intro ts
  induction ts with
  | nil =>
    intro vs ds ps _ h _ _
    obtain ⟨rfl, rfl, rfl⟩ := trodAll_nil h
    rfl
  | cons t ts ih =>
    intro vs ds ps hts h hlt hsp
    obtain ⟨v, vs', d, ds', p, q, rfl, rfl, rfl, h0, r0⟩ := trodAll_cons h
    have h1 := hts t (by simp)
    exact ⟨p, q, below_trod hl h1.1 h1.2 sp h0 hb (fun x hx => hlt x (by simp [hx])) (fun x hx => hsp x (by simp [hx])),
      ih (fun t ht => hts t (by simp [ht])) r0 (fun x hx => hlt x (by simp [hx])) (fun x hx => hsp x (by simp [hx])), rfl⟩
theorem trodAll_length {W : World} {b : Nat} {sp : Nat → Bool} {hd : Bool} : ∀ {ts : List TypeId} {vs : List Value} {ds : List (DataW H)} {ps : List MemPlace}, DataW.TrodAll enc P W b sp hd ts vs ds ps → ds.length = ts.length := by
  intro ts
  induction ts with
  | nil =>
    intro vs ds ps h
    obtain ⟨rfl, rfl, rfl⟩ := trodAll_nil h
    rfl
  | cons t ts ih =>
    intro vs ds ps h
    obtain ⟨v, vs', d, ds', p, q, rfl, rfl, rfl, h0, r0⟩ := trodAll_cons h
    simp [ih r0]

/-- A LAW's STEP: it answers true, and of what was there nothing has turned: that is what its row says. -/
theorem law_calls {f : Func} {k : FuncId} {s : ChangeSpec} {T : TypeId} {W : World} {args : Array Value} {ds gs : List (DataW H)} {before : List MemPlace}
    (hl : laidOutB P = true) (hts : (f.params.toList.all fun t => P.readableRec t && decide (t < P.types.size)) = true) (hv : s.vars = []) (hrt : f.resultTypes = #[T]) (hT : P.underlying T = some .bool)
    (hs : ∀ ds : List (DataW H), ds.length = f.params.size → s.fn H ds = { results := [.lit (.bool true)], args := ds })
    (hW : DataW.Whole enc P f.params.toList s.vars false W args.toList ds gs before)
    (h : Calls P k args W fun e W' => e = .returned (.bool true) ∧ Below W.heap.size W W') :
    Calls P k args W fun e W' => ∃ v, e = .returned v ∧ s.post enc P f false true false false W args v W' := by
  refine h.mono fun e W' ⟨he, hb⟩ => ⟨_, he, ?_⟩
  have hW' := hW
  have hlt : ∀ p ∈ before, p.block < W.heap.size := fun p hp => hW.lt p hp
  obtain ⟨p, q, hA, hV, hpq, hfz, hnd⟩ := hW
  rw [hv] at hV
  obtain ⟨rfl, rfl⟩ := trodVars_none hV
  obtain rfl : before = p := by simpa using hpq
  have hlen : ds.length = f.params.size := by rw [trodAll_length hA]; simp
  have hfn : s.fn H (ds ++ []) = { results := [.lit (.bool true)], args := ds } := by rw [List.append_nil]; exact hs ds hlen
  have hts' : ∀ t ∈ f.params.toList, P.readableRec t = true ∧ t < P.types.size := by
    intro t ht
    have := List.all_eq_true.1 hts t ht
    simpa using this
  refine ⟨ds, [], before, [], before, [], hW', ?_, ?_, ?_, ?_, fun h => by cases h⟩
  · rw [hfn, hrt]
    exact ⟨[], [], shut_bool hT true, rfl, rfl⟩
  · rw [hfn]
    exact trodAll_keep hl hb _ hts' hA hlt (fun x hx => by simpa using hlt x hx)
  · rw [hfn, hv]
    rfl
  · refine World.keptBut_mono (fun p hp => ?_) (hb.frame (· ∈ before))
    exact ⟨hp, .inr (.inl hp)⟩
end

/-! ### What stands at an address -/
/-- From address A on stand the cells xs (nothing is said where xs is empty). -/
def Row (w : World) (A : Option Addr) (xs : List Value) : Prop := 0 < xs.length → ∃ b off, A = some ⟨b, off, none⟩ ∧ ∀ j v, xs[j]? = some v → w.cell? ⟨b, off + j, none⟩ = some v
theorem Row.nil_ (w : World) (A : Option Addr) : Row w A [] := fun h => absurd h (by simp)
theorem Row.below {w w' : World} {A : Option Addr} {xs : List Value} (h : Row w A xs) (hb : Below w.heap.size w w') : Row w' A xs := by
  intro hp
  obtain ⟨b, off, rfl, hc⟩ := h hp
  refine ⟨b, off, rfl, fun j v hv => ?_⟩
  have h1 := hc j v hv
  have h2 := World.block_lt_of_cell? w _ h1
  rw [hb.cell h2]
  exact h1
theorem Row.new (w : World) (C : Array Value) (T : TypeId) (xs : List Value) (h : xs = C.toList) : Row (w.alloc (.cells C T)) (some ⟨w.heap.size, 0, none⟩) xs := by
  intro _
  refine ⟨_, _, rfl, fun j v hv => ?_⟩
  rw [Nat.zero_add, World.cell?_alloc_mark, ← hv, h]
  simp

/-- A plain address, where a cell is known behind it. -/
theorem addr_at {w : World} {a : Addr} {i : Nat} {v : Value} (h : w.cell? (a.add i) = some v) (h0 : ∃ u, w.cell? a = some u) : a.spot = none := by
  obtain ⟨u, hu⟩ := h0
  exact World.cell?_spot hu
theorem addr_add (b off j : Nat) : (⟨b, off, none⟩ : Addr).add j = ⟨b, off + j, none⟩ := by
  unfold Addr.add
  split <;> simp_all
/-- Cells that stand behind an address: a row. -/
theorem Row.of_cells {w : World} {a : Addr} {xs : List Value} (h : ∀ j v, xs[j]? = some v → w.cell? (a.add j) = some v) : Row w (some a) xs := by
  intro hp
  obtain ⟨b, off, spot⟩ := a
  have h0 := h 0 _ (List.getElem?_eq_getElem hp)
  have hspot : spot = none := by simpa [Addr.add] using World.cell?_spot h0
  subst hspot
  exact ⟨b, off, rfl, fun j v hv => by rw [← addr_add]; exact h j v hv⟩
section
variable {H : Type} {enc : TypeId × Value → H} {P : Program} {w : World} {base : Nat} {spare : Nat → Bool} {held : Bool}
/-- An argument that is a slice of strings, nil or not. -/
theorem open_strs {r : Reach} {b0 : Nat} {t e : TypeId} {v : Value} {d : DataW H} {p : List MemPlace} (ht : P.underlying t = some (.slice e)) (he : P.underlying e = some .string) (hc : P.cellsOf e = 1)
    (hv : Value.okWide P w r b0 t v) (h : DataW.Trod enc P w base spare held t v d p) :
    ∃ (A : Option Addr) (cap : Nat) (L : List ByteArray), v = .slice A L.length cap ∧ L.length ≤ maxLen ∧ (∀ s ∈ L, s.size ≤ maxLen) ∧ Row w A (L.map Value.string) := by
  obtain ⟨a0, len, cap, rfl⟩ := okWide_slice ht hv
  obtain ⟨fuel, hf⟩ := h
  rcases open_strings ht he hc hf with ⟨hcs, hx⟩ | ⟨a, len', cap', ss, hcs, _, hl, hm, hz, hx, hcell, hws⟩
  · simp [Value.cells] at hcs
    obtain ⟨rfl, rfl, rfl⟩ := hcs
    exact ⟨none, 0, [], rfl, by unfold maxLen; simp, by simp, Row.nil_ _ _⟩
  · simp [Value.cells] at hcs
    obtain ⟨rfl, rfl, rfl⟩ := hcs
    have hlen : len ≤ ss.length := by rw [hz]; split <;> omega
    have hL : (ss.take len).length = len := by simp; omega
    refine ⟨some a, cap, ss.take len, by rw [hL], by rw [hL]; omega, fun s hs => hws s (List.mem_of_mem_take hs), Row.of_cells fun j v hv => ?_⟩
    have hj : j < len := by
      have := (List.getElem?_eq_some_iff.1 hv).1
      simp at this
      omega
    rw [hcell j (by omega), ← hv]
    simp [hj, show j < ss.length by omega]
end

/-! ### A region that draws its order, whose operations read what was there and whose callees only make memory: one walk of the text's order -/
theorem region_below {P : Program} {id : Nat} {Q : Exit → Act → World → Prop} {a : Act} {w : World} {l : List Oper} (hm : P.follows .mixedOrders = true) (hB : Region.lexB .any l.toArray = true)
    (h : ∀ C : World → Prop, (∀ w', C w' → Below w.heap.size w w') → (∀ w' w'', C w' → Below w'.heap.size w' w'' → C w'') → wpQuiet P l.toArray C (fun a' => ∀ w', C w' → Q .normal a' w') l a) :
    (Code.region id l.toArray true).wp P Q a w :=
  wp_region_quiet (C := fun w' => Below w.heap.size w w') hm hB ((Below.refl _ _).drew)
    (by simpa using h _ (fun _ h => h) (fun w' w'' h1 h2 => h1.trans (h2.mono h1.size)))
theorem quiet_intro {P : Program} {o : Oper} {a : Act} {C : World → Prop} {K : Act → Prop} (v : Value) (h : ∀ w, C w → o.quietAt P a C w v) (k : K (a.put o.dst v)) : o.quiet P a C K := ⟨v, h, k⟩
/-- A cell that was there, in every world of the class. -/
theorem class_cell {C : World → Prop} {w : World} (hC : ∀ w', C w' → Below w.heap.size w w') {p : Addr} {v : Value} (h : w.cell? p = some v) : ∀ w', C w' → w'.cell? p = some v := fun w' hw => by
  rw [(hC w' hw).cell (World.block_lt_of_cell? w p h)]; exact h

theorem below_cell {w w' : World} (hb : Below w.heap.size w w') {p : Addr} {v : Value} (h : w.cell? p = some v) : w'.cell? p = some v := by
  rw [hb.cell (World.block_lt_of_cell? w p h)]; exact h
theorem below_frozen {w w' : World} (hb : Below w.heap.size w w') {p : Addr} {v : Value} (h : w.cell? p = some v) (hf : w.frozen? p = false) : w'.frozen? p = false := by
  rw [hb.frozen (World.block_lt_of_cell? w p h)]; exact hf

/-! ### Below, small -/
theorem below_drewN {B : Nat} {a w : World} (h : Below B a w) (n : Nat) : Below B a (w.drewN n) := .mk6 h.os h.tape h.output h.size h.block (Nat.le_trans h.drawn (Nat.le_add_right _ _))
theorem below_alloc1 (w : World) (o : Obj) : Below w.heap.size w (w.alloc o) := (Below.refl _ _).alloc (Nat.le_refl _) o
theorem below_trans {w a b : World} (h : Below w.heap.size w a) (k : Below a.heap.size a b) : Below w.heap.size w b := h.trans (k.mono h.size)

/-- string(b), b's cells being a new block's. -/
theorem run_convert_new {P : Program} (w : World) (src dst e : TypeId) (hs : P.underlying src = some (.slice e)) (he : P.underlying e = some (.int .u8)) (hd : P.underlying dst = some .string)
    (C : Array Value) (l : List UInt8) (hC : C = (l.map fun b => Value.int .u8 (b.toNat : Int)).toArray) (n cap : Nat) (hn : n = l.length) (T : TypeId) :
    (convert src dst (.slice (some ⟨w.heap.size, 0, none⟩) n cap)).run P (w.alloc (.cells C T)) = .ok (.string ⟨l.toArray⟩) (w.alloc (.cells C T)) := by
  subst hn
  refine run_convert_bytes_back _ src dst e _ cap l hs he hd (fun j hj => ?_)
  have e1 : (⟨w.heap.size, 0, none⟩ : Addr).add j = ⟨w.heap.size, j, none⟩ := by unfold Addr.add; split <;> simp_all
  rw [e1, World.cell?_alloc_mark, hC]
  simp [hj]
end Go.Proofs.Ytlhmjhildlnokaa
