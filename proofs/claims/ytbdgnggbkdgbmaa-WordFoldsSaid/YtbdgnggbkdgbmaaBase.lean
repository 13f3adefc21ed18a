/-
  General lemmas of this claim's own: worlds, rows of cells, the row's last step for a law. Nothing of the program stands here.
-/
import Derived.WalkKit
import Derived.WalkSpells
import Derived.WalkLawsBesides
import Derived.ProofKit
import Derived.OpenShut
import Derived.ShutString
import Derived.Lib.Hide
import Derived.Deep.Draws
import Derived.Handy
namespace Go.Proofs.Ytbdgnggbkdgbmaa
set_option linter.unusedVariables false
open Go.RowKit Go.WideShapes Go.ChangeShapes

/-! ### make with a variable size -/
theorem run_make_rowN {P : Program} (t e : TypeId) (i : TypeInfo) (z : Value) (ht : P.underlying t = some (.slice e)) (hi : P.info? e = some i) (hz : i.zero = some z)
    (kl kc : IntKind) (n c : Nat) (hnc : n ≤ c) (hbytes : i.bytes * c ≤ 281474976710656) (h63 : c ≤ 9223372036854775807) (w : World) :
    (Instr.makeSlice t (.int kl (n : Int)) (.int kc (c : Int))).run P w = .ok (.slice (some ⟨w.heap.size, 0, none⟩) n c) (w.alloc (.cells (madeCells z.cells (c * i.size)) e)) := by
  have hb : (i.bytes : Int) * (c : Int) ≤ 281474976710656 := by
    have h : ((i.bytes * c : Nat) : Int) ≤ 281474976710656 := by omega
    rwa [Int.natCast_mul] at h
  have hr := run_make (P := P) w t e i z ht hi hz kl kc n c (by omega) (by omega) hb (by omega)
  simp only [Int.toNat_natCast] at hr
  exact hr

/-- A row of n cells, the first i of them written by f, the others z. -/
def rowC (f : Nat → Value) (z : Value) (n i : Nat) : Array Value := ((List.range n).map fun j => if j < i then f j else z).toArray
theorem rowC_zero (f : Nat → Value) (z : Value) (n : Nat) : madeCells #[z] n = rowC f z n 0 := by
  apply Array.ext
  · simp [madeCells, rowC]
  · intro i h1 h2
    simp [madeCells, rowC, Nat.mod_one]
theorem rowC_set (f : Nat → Value) (z : Value) (n i : Nat) : (rowC f z n i).setIfInBounds i (f i) = rowC f z n (i+1) := by
  apply Array.ext
  · simp [rowC]
  · intro j h1 h2
    rw [Array.getElem_setIfInBounds (by simpa using h1)]
    by_cases h : i = j
    · subst h; simp [rowC]
    · rw [if_neg h]
      have : (j < i) ↔ (j < i + 1) := by omega
      simp [rowC, this]
theorem rowC_get (f : Nat → Value) (z : Value) (n i k : Nat) (h : k < n) : (rowC f z n i)[k]? = some (if k < i then f k else z) := by
  simp [rowC, h]
theorem rowC_at (f : Nat → Value) (z : Value) (n k : Nat) (h : k < n) : (rowC f z n k)[k]? = some z := by
  simp [rowC, h]
theorem rowC_full (f : Nat → Value) (z : Value) (n : Nat) : rowC f z n n = ((List.range n).map f).toArray := by
  unfold rowC
  congr 1
  apply List.map_congr_left
  intro a ha
  rw [if_pos (List.mem_range.1 ha)]

/-! ### The row's last step: a law answers true, and of what was there nothing has turned -/
section
variable {H : Type} {enc : TypeId × Value → H} {P : Program}
theorem post_of_below {f : Func} {s : ChangeSpec} {apart fresh handsOn again : Bool} {W W' : World} {args : Array Value} {v : Value} {ds gs : List (DataW H)} {before pa pv : List MemPlace}
    (hW : DataW.Whole enc P f.params.toList s.vars apart W args.toList ds gs before)
    (hres : ∀ (b : Nat) (sp : Nat → Bool) (hd : Bool), DataW.TrodAll enc P W' b sp hd f.resultTypes.toList (v.resultList f.resultTypes.size) (s.fn H (ds ++ gs)).results [])
    (hargs : ∀ sp : Nat → Bool, (∀ p ∈ before, sp p.block = true) → DataW.TrodAll enc P W' 0 sp true f.params.toList args.toList (s.fn H (ds ++ gs)).args pa)
    (hvars : ∀ sp : Nat → Bool, (∀ p ∈ before, sp p.block = true) → DataW.TrodVars enc P W' sp s.vars (s.fn H (ds ++ gs)).vars pv)
    (hps : before = pa ++ pv) (hb : Below W.heap.size W W')
    (hok : ∀ (j : Nat) (t : TypeId) (r : Value), f.resultTypes[j]? = some t → (v.resultList f.resultTypes.size)[j]? = some r → Value.okWide P W' .any 0 t r) :
    s.post enc P f apart fresh handsOn again W args v W' := by
  have hlt : ∀ p ∈ before, p.block < W.heap.size := fun p hp => hW.lt p hp
  have hold : ∀ p ∈ before, (fun b => decide (b < W.heap.size)) p.block = true := fun p hp => by simpa using hlt p hp
  refine ⟨ds, gs, before, [], pa, pv, hW, hres _ _ _, hargs _ hold, hvars _ hold, World.keptBut_mono (fun p hp => ⟨hp, ?_⟩) (hb.frame (· ∈ before)), fun _ => ?_⟩
  · rw [hps, List.mem_append] at hp
    exact Or.inr hp
  · obtain ⟨_, _, _, _, _, hz, hn⟩ := hW
    refine ⟨hok, _, _, ([] ++ pa) ++ pv, ⟨[] ++ pa, pv, trodAll_append (hargs _ (fun _ _ => rfl)) (hres _ _ _), hvars _ (fun _ _ => rfl), rfl, ?_, ?_⟩, ?_⟩
    · intro b off hp
      have hin : MemPlace.cell b off ∈ before := by rw [hps]; simpa using hp
      rw [hb.frozen (hlt _ hin)]
      exact hz b off hin
    · intro ha
      have := hn ha
      rw [hps] at this
      simpa using this
    · intro p hp _
      rw [hps]
      simpa using hp

/-- An argument reads behind the call as it did, whatever it is: for any choice of spare places that lets the places met by. -/
theorem below_trod {t : TypeId} (hl : laidOutB P = true) (hr : P.readableRec t = true) (hrow : t < P.types.size) {W W' : World} {v : Value} {d : DataW H} {ps : List MemPlace} (sp : Nat → Bool)
    (h : DataW.Trod enc P W 0 (fun _ => true) true t v d ps) (hb : Below W.heap.size W W') (hlt : ∀ x ∈ ps, x.block < W.heap.size) (hsp : ∀ x ∈ ps, sp x.block = true) :
    DataW.Trod enc P W' 0 sp true t v d ps :=
  WideElems.Trod_stays hl hr hrow h (fun x hx => hb.same (hlt x hx)) hsp
end

section
variable {H : Type} {enc : TypeId × Value → H} {P : Program}
/-- All arguments read behind the call as they did. -/
theorem trodAll_keep (hl : laidOutB P = true) {W W' : World} (hb : Below W.heap.size W W') (sp : Nat → Bool) : ∀ {ts : List TypeId} {vs : List Value} {ds : List (DataW H)} {ps : List MemPlace},
    (∀ t ∈ ts, P.readableRec t = true ∧ t < P.types.size) → DataW.TrodAll enc P W 0 (fun _ => true) true ts vs ds ps → (∀ x ∈ ps, x.block < W.heap.size) → (∀ x ∈ ps, sp x.block = true) → DataW.TrodAll enc P W' 0 sp true ts vs ds ps := by
  intro ts
  induction ts with
  | nil =>
    intro vs ds ps _ h _ _
    obtain ⟨rfl, rfl, rfl⟩ := trodAll_nil h
    rfl
  | cons t ts ih =>
    intro vs ds ps hts h hlt hsp
    obtain ⟨v, vs', d, ds', p, q, rfl, rfl, rfl, h0, r0⟩ := trodAll_cons h
    have h1 := hts t (by simp)
    exact ⟨p, q, below_trod hl h1.1 h1.2 sp h0 hb (fun x hx => hlt x (by simp [hx])) (fun x hx => hsp x (by simp [hx])),
      ih (fun t ht => hts t (by simp [ht])) r0 (fun x hx => hlt x (by simp [hx])) (fun x hx => hsp x (by simp [hx])), rfl⟩
theorem trodAll_length {W : World} {b : Nat} {sp : Nat → Bool} {hd : Bool} : ∀ {ts : List TypeId} {vs : List Value} {ds : List (DataW H)} {ps : List MemPlace}, DataW.TrodAll enc P W b sp hd ts vs ds ps → ds.length = ts.length := by
  intro ts
  induction ts with
  | nil =>
    intro vs ds ps h
    obtain ⟨rfl, rfl, rfl⟩ := trodAll_nil h
    rfl
  | cons t ts ih =>
    intro vs ds ps h
    obtain ⟨v, vs', d, ds', p, q, rfl, rfl, rfl, h0, r0⟩ := trodAll_cons h
    simp [ih r0]

/-- A LAW's STEP: it answers true, and of what was there nothing has turned: that is what its row says. -/
theorem law_calls {f : Func} {k : FuncId} {s : ChangeSpec} {T : TypeId} {W : World} {args : Array Value} {ds gs : List (DataW H)} {before : List MemPlace}
    (hl : laidOutB P = true) (hts : (f.params.toList.all fun t => P.readableRec t && decide (t < P.types.size)) = true) (hv : s.vars = []) (hrt : f.resultTypes = #[T]) (hT : P.underlying T = some .bool)
    (hs : ∀ ds : List (DataW H), ds.length = f.params.size → s.fn H ds = { results := [.lit (.bool true)], args := ds })
    (hW : DataW.Whole enc P f.params.toList s.vars false W args.toList ds gs before)
    (h : Calls P k args W fun e W' => e = .returned (.bool true) ∧ Below W.heap.size W W') :
    Calls P k args W fun e W' => ∃ v, e = .returned v ∧ s.post enc P f false true false false W args v W' := by
  refine h.mono fun e W' ⟨he, hb⟩ => ⟨_, he, ?_⟩
  have hW' := hW
  have hlt : ∀ p ∈ before, p.block < W.heap.size := fun p hp => hW.lt p hp
  obtain ⟨p, q, hA, hV, hpq, hfz, hnd⟩ := hW
  rw [hv] at hV
  obtain ⟨rfl, rfl⟩ := trodVars_none hV
  obtain rfl : before = p := by simpa using hpq
  have hlen : ds.length = f.params.size := by rw [trodAll_length hA]; simp
  have hfn : s.fn H (ds ++ []) = { results := [.lit (.bool true)], args := ds } := by rw [List.append_nil]; exact hs ds hlen
  have hts' : ∀ t ∈ f.params.toList, P.readableRec t = true ∧ t < P.types.size := by
    intro t ht
    have := List.all_eq_true.1 hts t ht
    simpa using this
  refine ⟨ds, [], before, [], before, [], hW', ?_, ?_, ?_, ?_, fun h => by cases h⟩
  · rw [hfn, hrt]
    exact ⟨[], [], shut_bool hT true, rfl, rfl⟩
  · rw [hfn]
    exact trodAll_keep hl hb _ hts' hA hlt (fun x hx => by simpa using hlt x hx)
  · rw [hfn, hv]
    rfl
  · refine World.keptBut_mono (fun p hp => ?_) (hb.frame (· ∈ before))
    exact ⟨hp, .inr (.inl hp)⟩
end

/-! ### Below, small -/
theorem below_drewN {B : Nat} {a w : World} (h : Below B a w) (n : Nat) : Below B a (w.drewN n) := ⟨h.os, h.tape, h.output, h.size, h.block⟩
theorem below_alloc1 (w : World) (o : Obj) : Below w.heap.size w (w.alloc o) := (Below.refl _ _).alloc (Nat.le_refl _) o
theorem below_trans {w a b : World} (h : Below w.heap.size w a) (k : Below a.heap.size a b) : Below w.heap.size w b := h.trans (k.mono h.size)

/-- string(b), b's cells being a new block's. -/
theorem run_convert_new {P : Program} (w : World) (src dst e : TypeId) (hs : P.underlying src = some (.slice e)) (he : P.underlying e = some (.int .u8)) (hd : P.underlying dst = some .string)
    (C : Array Value) (l : List UInt8) (hC : C = (l.map fun b => Value.int .u8 (b.toNat : Int)).toArray) (n cap : Nat) (hn : n = l.length) (T : TypeId) :
    (convert src dst (.slice (some ⟨w.heap.size, 0, none⟩) n cap)).run P (w.alloc (.cells C T)) = .ok (.string ⟨l.toArray⟩) (w.alloc (.cells C T)) := by
  subst hn
  refine run_convert_bytes_back _ src dst e _ cap l hs he hd (fun j hj => ?_)
  have e1 : (⟨w.heap.size, 0, none⟩ : Addr).add j = ⟨w.heap.size, j, none⟩ := by unfold Addr.add; split <;> simp_all
  rw [e1, World.cell?_alloc_mark, hC]
  simp [hj]
end Go.Proofs.Ytbdgnggbkdgbmaa
