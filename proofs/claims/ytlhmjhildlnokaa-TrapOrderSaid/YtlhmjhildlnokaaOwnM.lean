/-
  Resources: maps. What a map has is told by a function from keys to values. Nothing of the program stands here.
-/
import Derived.Test.YtlhmjhildlnokaaOwn5
import Derived.MapKept
namespace Go.Proofs.Ytlhmjhildlnokaa
set_option linter.unusedVariables false
set_option linter.unusedSimpArgs false
open Go.RowKit Go.MapKept

variable {K V : Type} [DecidableEq K]
/-- The first entry of a key. -/
def firstI (k : K) : List (K × V) → Nat → Option (Nat × V)
  | [], _ => none
  | (k', v) :: l, i => if k = k' then some (i, v) else firstI k l (i + 1)
def upd (m : K → Option V) (k : K) (v : V) : K → Option V := fun k' => if k' = k then some v else m k'
theorem first_ge {k : K} : ∀ {L : List (K × V)} {i j : Nat} {v : V}, firstI k L i = some (j, v) → ∃ d, j = i + d ∧ L[d]? = some (k, v)
  | [], _, _, _, h => by cases h
  | (k', u) :: l, i, j, v, h => by
    unfold firstI at h
    split at h
    · rename_i e
      injection h with h; injection h with h1 h2
      exact ⟨0, h1.symm, by rw [e, h2]; rfl⟩
    · obtain ⟨d, h1, h2⟩ := first_ge h
      exact ⟨d + 1, by omega, by simpa using h2⟩
theorem first_set {k : K} (u : V) : ∀ {L : List (K × V)} {i d : Nat} {v : V}, firstI k L i = some (i + d, v) → ∀ k', (firstI k' (L.set d (k, u)) i).map (·.2) = if k' = k then some u else (firstI k' L i).map (·.2)
  | [], _, _, _, h => by cases h
  | (k0, v0) :: l, i, d, v, h => by
    intro k'
    unfold firstI at h
    split at h
    · rename_i e
      injection h with h; injection h with h1 h2
      obtain rfl : d = 0 := by omega
      subst e
      simp only [List.set_cons_zero, firstI]
      split
      · rfl
      · rfl
    · rename_i e
      obtain ⟨d', h1, h2⟩ := first_ge h
      obtain rfl : d = d' + 1 := by omega
      have h' : firstI k l (i + 1) = some ((i + 1) + d', v) := by rw [h, show i + (d' + 1) = i + 1 + d' by omega]
      simp only [List.set_cons_succ, firstI]
      by_cases h0 : k' = k0
      · rw [if_pos h0, if_pos h0, if_neg (by rw [h0]; exact fun q => e q.symm)]
      · rw [if_neg h0, if_neg h0]
        exact first_set u h' k'
theorem first_push {k : K} (u : V) : ∀ {L : List (K × V)} {i : Nat}, firstI k L i = none → ∀ k', (firstI k' (L ++ [(k, u)]) i).map (·.2) = if k' = k then some u else (firstI k' L i).map (·.2)
  | [], i, _ => by
    intro k'
    simp only [List.nil_append, firstI]
    split <;> rfl
  | (k0, v0) :: l, i, h => by
    intro k'
    unfold firstI at h
    split at h
    · cases h
    · rename_i e
      simp only [List.cons_append, firstI]
      by_cases h0 : k' = k0
      · rw [if_pos h0, if_pos h0, if_neg (by rw [h0]; exact fun q => e q.symm)]
      · rw [if_neg h0, if_neg h0]
        exact first_push u h k'

/-- The map in block b has m. -/
def MapIs (kf : K → Value) (vf : V → Value) (b : Nat) (m : K → Option V) (w : World) : Prop :=
  ∃ es clock, ∃ L : List (K × V), w.heap[b]? = some (.map es clock) ∧ es.toList.map (fun e => (e.key, e.val)) = L.map (fun p => (kf p.1, vf p.2)) ∧ ∀ k, (firstI k L 0).map (·.2) = m k
def mapR (kf : K → Value) (vf : V → Value) (b : Nat) (m : K → Option V) : Res := .any false (fun k => k = b) (MapIs kf vf b m)
theorem mapR_holds {kf : K → Value} {vf : V → Value} {b : Nat} {m : K → Option V} {w : World} (h : MapIs kf vf b m w) : (mapR kf vf b m).holds w := by
  intro w' hw
  obtain ⟨es, c, L, h1, h2⟩ := h
  exact ⟨es, c, L, by rw [hw b rfl]; exact h1, h2⟩

/-- Keys of this type are told apart. -/
structure KeyOK (P : Program) (kt : TypeId) (kf : K → Value) : Prop where
  check : ∀ e k w, (Instr.checkKey e 10000 kt (kf k)).run P w = .ok () w
  same : ∀ k, Instr.sameBits 10000 (kf k) (kf k) = true
  find : ∃ D, P.underlying kt = some D ∧ ((∀ k k', Instr.sameNow D (kf k) (kf k') = some (decide (k = k'))) ∨ ((∀ k v, Instr.sameNow D (kf k) v = none) ∧ ∀ k k' w, (Op.equal kt (kf k) (kf k')).run P w = .ok (decide (k = k')) w))

variable {P : Program} {kt : TypeId} {kf : K → Value} {vf : V → Value}
theorem run_find (hk : KeyOK P kt kf) (k : K) {es : List MapEntry} {L : List (K × V)} (h : es.map (fun e => (e.key, e.val)) = L.map (fun p => (kf p.1, vf p.2))) (w : World) :
    (Instr.findKey kt (kf k) es).run P w = .ok ((firstI k L 0).map fun p => (p.1, vf p.2)) w := by
  obtain ⟨D, hD, h1 | ⟨h1, h2⟩⟩ := hk.find
  · have key : ∀ (es : List MapEntry) (L : List (K × V)) (i : Nat), es.map (fun e => (e.key, e.val)) = L.map (fun p => (kf p.1, vf p.2)) → Instr.findNow D (kf k) es i = some ((firstI k L i).map fun p => (p.1, vf p.2)) := by
      intro es
      induction es with
      | nil => intro L i h; cases L with
        | nil => rfl
        | cons => simp at h
      | cons e es ih =>
        intro L i h
        cases L with
        | nil => simp at h
        | cons p L =>
          obtain ⟨k', v⟩ := p
          simp only [List.map_cons, List.cons.injEq, Prod.mk.injEq] at h
          obtain ⟨⟨ek, ev⟩, h⟩ := h
          unfold Instr.findNow firstI
          rw [ek, h1]
          by_cases hkk : k = k'
          · rw [if_pos hkk]; simp [hkk, ev]
          · rw [if_neg hkk]; simp [hkk, ih L (i + 1) h]
    simp only [Instr.findKey, Sem.run_bind, run_underlying hD, Result.andThen_ok, key es L 0 h, Sem.run_pure]
  · have key : ∀ (es : List MapEntry) (L : List (K × V)) (i : Nat), es.map (fun e => (e.key, e.val)) = L.map (fun p => (kf p.1, vf p.2)) → (Instr.findAsking kt (kf k) es i).run P w = .ok ((firstI k L i).map fun p => (p.1, vf p.2)) w := by
      intro es
      induction es with
      | nil => intro L i h; cases L with
        | nil => simp [Instr.findAsking, firstI]
        | cons => simp at h
      | cons e es ih =>
        intro L i h
        cases L with
        | nil => simp at h
        | cons p L =>
          obtain ⟨k', v⟩ := p
          simp only [List.map_cons, List.cons.injEq, Prod.mk.injEq] at h
          obtain ⟨⟨ek, ev⟩, h⟩ := h
          unfold Instr.findAsking firstI
          rw [ek]
          simp only [Sem.run_bind, h2, Result.andThen_ok]
          by_cases hkk : k = k'
          · rw [if_pos hkk]; simp [hkk, ev]
          · rw [if_neg hkk]; simp [hkk, ih L (i + 1) h]
    cases es with
    | nil =>
      cases L with
      | nil => simp [Instr.findKey, run_underlying hD, Instr.findNow, firstI]
      | cons => simp at h
    | cons e es =>
      have hn : Instr.findNow D (kf k) (e :: es) 0 = none := by unfold Instr.findNow; rw [h1]
      simp only [Instr.findKey, Sem.run_bind, run_underlying hD, Result.andThen_ok, hn]
      exact key _ _ _ h

variable {B : Nat} {w0 w w' : World} {l l' : List Res} {ty et : TypeId} {b : Nat} {m : K → Option V}
theorem run_lookup (hk : KeyOK P kt kf) (ht : P.underlying ty = some (.map kt et)) {z : V} (hz : ∀ w, (zeroValue et).run P w = .ok (vf z) w) (h : MapIs kf vf b m w) (k : K) (ok : Bool) :
    (Instr.lookup ty (.map (some b)) (kf k) ok).run P w = .ok (if ok then .tuple #[vf ((m k).getD z), .bool (m k).isSome] else vf ((m k).getD z)) w := by
  obtain ⟨es, c, L, h1, h2, h3⟩ := h
  have hf := run_find hk k h2 w
  unfold Instr.lookup
  simp only [Sem.run_bind, run_underlying ht, Result.andThen_ok, MapKept.run_getObj_map h1, Sem.run_pure, hk.check, hf]
  rw [← h3 k]
  cases hfk : firstI k L 0 with
  | none => cases ok <;> simp [hz]
  | some p => cases ok <;> simp
theorem run_update {l0 : (K → Option V) → List Res} (hk : KeyOK P kt kf) (ht : P.underlying ty = some (.map kt et)) (H : Own B w0 w l) (hrep : ∀ m', Rep (mapR kf vf b m) (mapR kf vf b m') l (l0 m')) (k : K) (v : V) :
    ∃ w', (Instr.mapUpdate ty (.map (some b)) (kf k) (vf v)).run P w = .ok () w' ∧ Own B w0 w' (l0 (upd m k v)) := by
  obtain ⟨es, c, L, h1, h2, h3⟩ := H.holds _ (hrep m).mem w fun _ _ => rfl
  have hf := run_find hk k h2 w
  have hlt := H.lt _ (hrep m).mem b rfl
  have step : ∀ es' c' (L' : List (K × V)), es'.toList.map (fun e => (e.key, e.val)) = L'.map (fun p => (kf p.1, vf p.2)) → (∀ k', (firstI k' L' 0).map (·.2) = upd m k v k') →
      Own B w0 { w with heap := w.heap.setIfInBounds b (.map es' c') } (l0 (upd m k v)) := by
    intro es' c' L' e1 e2
    obtain ⟨g1, g2⟩ := heap_set (o' := .map es' c') h1
    refine H.change (hrep _) rfl rfl (.mk6 rfl rfl rfl (by simp) (fun k hk => g2 k (by have := hlt.2 rfl; omega)) (Nat.le_refl _)) (fun k _ hne => g2 k hne) (mapR_holds ⟨es', c', L', g1, e1, e2⟩) (fun k hk => ?_) (fun k hk => .inl hk)
    obtain rfl : k = b := hk
    simpa using hlt.1
  unfold Instr.mapUpdate
  simp only [Sem.run_bind, run_underlying ht, Result.andThen_ok, MapKept.run_getObj_map h1, hk.check, hf]
  cases hfk : firstI k L 0 with
  | none =>
    refine ⟨_, by simp only [Option.map_none, MapKept.run_setObj_map _ h1]; rfl, step _ _ (L ++ [(k, v)]) (by simp [h2]) (fun k' => ?_)⟩
    rw [first_push v hfk k', h3]; rfl
  | some p =>
    obtain ⟨j, u⟩ := p
    obtain ⟨d, hd, hL⟩ := first_ge hfk
    obtain rfl : j = d := by omega
    have he : ∃ e, es[j]? = some e ∧ e.key = kf k := by
      have hh := congrArg (·[j]?) h2
      simp only [List.getElem?_map, hL, Option.map_some] at hh
      cases he : es.toList[j]? with
      | none => simp [he] at hh
      | some e => simp [he] at hh; exact ⟨e, by simpa using he, hh.1⟩
    obtain ⟨e, he, hek⟩ := he
    have hst : (Instr.keyThatStays (kf k) (kf k)).run P w = .ok (kf k) w := by simp [Instr.keyThatStays, hk.same]
    refine ⟨_, by simp only [Option.map_some, he, Option.getD_some, hek, Sem.run_bind, hst, Result.andThen_ok, MapKept.run_setObj_map _ h1]; rfl, step _ _ (L.set j (k, v)) ?_ (fun k' => ?_)⟩
    · apply List.ext_getElem?
      intro i
      have hh := congrArg (·[i]?) h2
      simp only [List.getElem?_map, Array.getElem?_toList] at hh
      simp only [List.getElem?_map, Array.getElem?_toList, Array.getElem?_modify, List.getElem?_set]
      by_cases hij : j = i
      · subst hij
        have : j < L.length := (List.getElem?_eq_some_iff.1 hL).1
        simp [he, this]
      · simp [hij, hh]
    · have hfk' : firstI k L 0 = some (0 + j, u) := by rw [hfk, Nat.zero_add]
      rw [first_set v hfk' k', h3]; rfl

section
variable {o : Oper} {a : Act} {Q : Exit → Act → World → Prop} {x y z : Operand}
theorem o_makeMap (kf : K → Value) (vf : V → Value) {C : Act → World → Prop} (ho : o.op = .makeMap ty none) (H : Own B w0 w l)
    (hk : ∀ w' b, Ext w w' → Own B w0 w' (mapR kf vf b (fun _ => none) :: l) → C (a.put o.dst (.map (some b))) w') : o.wp P a w C Q := by
  unfold Oper.wp execOp
  have : (Instr.makeMap ty none).run P w = .ok (.map (some w.heap.size)) (w.alloc (.map #[] 0)) := rfl
  simp only [ho, Sem.run_bind, Option.map_none, this]
  refine hk _ _ (below_alloc1 w _) ((H.ext (below_alloc1 w _)).add _ (mapR_holds ⟨#[], 0, [], heap_alloc_new w _, rfl, fun _ => rfl⟩) (fun k hk => ?_) (fun r' hr' => .inr fun k hk hk' => ?_))
  · obtain rfl : k = w.heap.size := hk
    exact ⟨by simp, fun _ => H.base⟩
  · obtain rfl : k = w.heap.size := hk
    exact absurd (H.lt r' hr' _ hk').1 (Nat.lt_irrefl _)
theorem o_lookup {C : Act → World → Prop} (hK : KeyOK P kt kf) {zv : V} {k : K} (ho : o.op = .lookup ty x y false) (hx : a.eval x = .map (some b)) (hy : a.eval y = kf k) (H : Own B w0 w l) (hm : mapR kf vf b m ∈ l)
    (ht : P.underlying ty = some (.map kt et)) (hz : ∀ w, (zeroValue et).run P w = .ok (vf zv) w) (hk : C (a.put o.dst (vf ((m k).getD zv))) w) : o.wp P a w C Q := by
  unfold Oper.wp execOp
  have := run_lookup (P := P) hK ht hz (H.holds _ hm w fun _ _ => rfl) k false
  simp only [ho, hx, hy, Sem.run_bind, this]
  exact hk
theorem o_lookupOk {C : Act → World → Prop} (hK : KeyOK P kt kf) {zv : V} {k : K} (ho : o.op = .lookup ty x y true) (hx : a.eval x = .map (some b)) (hy : a.eval y = kf k) (H : Own B w0 w l) (hm : mapR kf vf b m ∈ l)
    (ht : P.underlying ty = some (.map kt et)) (hz : ∀ w, (zeroValue et).run P w = .ok (vf zv) w) (hk : C (a.put o.dst (.tuple #[vf ((m k).getD zv), .bool (m k).isSome])) w) : o.wp P a w C Q := by
  unfold Oper.wp execOp
  have := run_lookup (P := P) hK ht hz (H.holds _ hm w fun _ _ => rfl) k true
  simp only [ho, hx, hy, Sem.run_bind, this]
  exact hk
theorem o_mapUpdate {C : Act → World → Prop} {l0 : (K → Option V) → List Res} (hK : KeyOK P kt kf) {k : K} {v : V} (ho : o.op = .mapUpdate ty x y z) (hx : a.eval x = .map (some b)) (hy : a.eval y = kf k) (hv : a.eval z = vf v) (H : Own B w0 w l)
    (hrep : ∀ m', Rep (mapR kf vf b m) (mapR kf vf b m') l (l0 m')) (ht : P.underlying ty = some (.map kt et)) (hk : ∀ w', Own B w0 w' (l0 (upd m k v)) → C (a.put o.dst undef) w') : o.wp P a w C Q := by
  obtain ⟨w', h1, h2⟩ := run_update (P := P) hK ht H hrep k v
  unfold Oper.wp execOp
  simp only [ho, hx, hy, hv, Sem.run_bind, h1]
  exact hk w' h2
end
end Go.Proofs.Ytlhmjhildlnokaa
