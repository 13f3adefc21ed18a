/-
  Resources: maps as lists of entries, in any order: made, asked, changed, struck, counted, ranged over. Nothing of the program stands here.
-/
import Derived.Test.YtlhmjhildlnokaaOwnM
namespace Go.Proofs.Ytlhmjhildlnokaa
set_option linter.unusedVariables false
set_option linter.unusedSimpArgs false
open Go.RowKit Go.MapKept

variable {K V : Type}
theorem keys_perm {A A' : List (K × V)} (h : A.Perm A') : (A.map (·.1)).Perm (A'.map (·.1)) := h.map _
/-- The map in block b has the entries A, in some order. -/
def MapAs (kf : K → Value) (vf : V → Value) (b : Nat) (A : List (K × V)) (w : World) : Prop :=
  ∃ es clock, ∃ L : List (K × V), w.heap[b]? = some (.map es clock) ∧ es.toList.map (fun e => (e.key, e.val)) = L.map (fun p => (kf p.1, vf p.2)) ∧ L.Perm A ∧ (A.map (·.1)).Nodup ∧ (es.toList.map (·.born)).Nodup ∧ ∀ e ∈ es.toList, e.born < clock
def mapA (kf : K → Value) (vf : V → Value) (b : Nat) (A : List (K × V)) : Res := .any false (fun k => k = b) (MapAs kf vf b A)
theorem mapA_holds {kf : K → Value} {vf : V → Value} {b : Nat} {A : List (K × V)} {w : World} (h : MapAs kf vf b A w) : (mapA kf vf b A).holds w := by
  intro w' hw
  obtain ⟨es, c, L, h1, h2⟩ := h
  exact ⟨es, c, L, by rw [hw b rfl]; exact h1, h2⟩
theorem MapAs.perm {kf : K → Value} {vf : V → Value} {b : Nat} {A A' : List (K × V)} {w : World} (h : MapAs kf vf b A w) (hp : A.Perm A') : MapAs kf vf b A' w := by
  obtain ⟨es, c, L, h1, h2, h3, h4, h5⟩ := h
  exact ⟨es, c, L, h1, h2, h3.trans hp, (keys_perm hp).nodup_iff.1 h4, h5⟩
variable {P : Program} {kt : TypeId} {kf : K → Value} {vf : V → Value} {B : Nat} {w0 w w' : World} {l l' : List Res} {ty et : TypeId} {b : Nat} {A : List (K × V)}
theorem Own.asA (H : Own B w0 w l) (hm : mapA kf vf b A ∈ l) : MapAs kf vf b A w := H.holds _ hm w fun _ _ => rfl
theorem Own.nodupA (H : Own B w0 w l) (hm : mapA kf vf b A ∈ l) : (A.map (·.1)).Nodup := by obtain ⟨_, _, _, _, _, _, h, _⟩ := H.asA hm; exact h
theorem Own.permA {A' : List (K × V)} (H : Own B w0 w (mapA kf vf b A :: l)) (hp : A.Perm A') : Own B w0 w (mapA kf vf b A' :: l) :=
  ⟨H.below, H.base, List.forall_mem_cons.2 ⟨mapA_holds ((H.asA (by simp)).perm hp), (List.forall_mem_cons.1 H.holds).2⟩, List.forall_mem_cons.2 ⟨(List.forall_mem_cons.1 H.lt).1, (List.forall_mem_cons.1 H.lt).2⟩, .cons (fun r' hr' => (List.pairwise_cons.1 H.apart).1 r' hr') (List.pairwise_cons.1 H.apart).2⟩
theorem run_lenA (ht : P.underlying ty = some (.map kt et)) (h : MapAs kf vf b A w) (aty : Array TypeId) (rt : TypeId) (hat : aty[0]? = some ty) : (Builtin.len_ aty rt #[.map (some b)]).run P w = .ok (.int .i64 (A.length : Int)) w := by
  obtain ⟨es, c, L, h1, h2, h3, _⟩ := h
  have hlen : es.size = A.length := by have := congrArg List.length h2; rw [← h3.length_eq]; simpa using this
  unfold Builtin.len_
  simp only [hat, List.getElem?_toArray, List.getElem?_cons_zero, Sem.run_bind, run_underlying ht, Result.andThen_ok, MapKept.run_getObj_map h1, Sem.run_pure, hlen]
  rfl
/-- A block that holds a map is changed. -/
theorem Own.changeA {A' : List (K × V)} {l0 : List Res} {es : Array MapEntry} {clock : Nat} (H : Own B w0 w l) (hrep : Rep (mapA kf vf b A) (mapA kf vf b A') l l0) (h1 : w.heap[b]? = some (.map es clock)) (es' : Array MapEntry) (c' : Nat) (L' : List (K × V))
    (e1 : es'.toList.map (fun e => (e.key, e.val)) = L'.map (fun p => (kf p.1, vf p.2))) (e2 : L'.Perm A') (e3 : (A'.map (·.1)).Nodup) (e4 : (es'.toList.map (·.born)).Nodup) (e5 : ∀ e ∈ es'.toList, e.born < c') :
    Own B w0 { w with heap := w.heap.setIfInBounds b (.map es' c') } l0 := by
  have hlt := H.lt _ hrep.mem b rfl
  obtain ⟨g1, g2⟩ := heap_set (o' := .map es' c') h1
  refine H.change hrep rfl rfl (.mk6 rfl rfl rfl (by simp) (fun k hk => g2 k (by have := hlt.2 rfl; omega)) (Nat.le_refl _)) (fun k _ hne => g2 k hne) (mapA_holds ⟨es', c', L', g1, e1, e2, e3, e4, e5⟩) (fun k hk => ?_) (fun k hk => .inl hk)
  obtain rfl : k = b := hk
  simpa using hlt.1
theorem map_eraseIdx {α β : Type} (f : α → β) : ∀ (l : List α) (j : Nat), (l.eraseIdx j).map f = (l.map f).eraseIdx j
  | [], _ => rfl
  | _ :: _, 0 => rfl
  | a :: l, j + 1 => by simp only [List.eraseIdx_cons_succ, List.map_cons, map_eraseIdx f l j]
variable [DecidableEq K]
/-- What a list of entries says of a key. -/
def getA (A : List (K × V)) (k : K) : Option V := (firstI k A 0).map (·.2)
/-- The list without a key. -/
def cutA (A : List (K × V)) (k : K) : List (K × V) := A.filter fun p => decide (p.1 ≠ k)
theorem first_none {k : K} : ∀ {A : List (K × V)} {i : Nat}, firstI k A i = none ↔ k ∉ A.map (·.1)
  | [], _ => by simp [firstI]
  | (k', v) :: A, i => by
    unfold firstI
    by_cases h : k = k'
    · rw [if_pos h]; simp [h]
    · rw [if_neg h, first_none]; simp [h]
theorem first_at {k : K} {v : V} : ∀ {A : List (K × V)} {i : Nat}, (A.map (·.1)).Nodup → (k, v) ∈ A → ∃ j, firstI k A i = some (j, v)
  | (k', u) :: A, i, hn, h => by
    simp only [List.map_cons, List.nodup_cons] at hn
    unfold firstI
    rcases List.mem_cons.1 h with h | h
    · injection h with h1 h2
      rw [if_pos h1]
      exact ⟨i, by rw [h2]⟩
    · have hk : k ≠ k' := fun e => hn.1 (List.mem_map.2 ⟨(k, v), h, e⟩)
      rw [if_neg hk]
      exact first_at hn.2 h
theorem getA_some {A : List (K × V)} (hn : (A.map (·.1)).Nodup) {k : K} {v : V} : getA A k = some v ↔ (k, v) ∈ A := by
  constructor
  · intro h
    unfold getA at h
    cases hf : firstI k A 0 with
    | none => rw [hf] at h; cases h
    | some p =>
      obtain ⟨j, u⟩ := p
      obtain ⟨d, h1, h2⟩ := first_ge hf
      rw [hf] at h
      obtain rfl : u = v := by simpa using h
      exact List.mem_of_getElem? h2
  · intro h
    obtain ⟨j, hj⟩ := first_at (i := 0) hn h
    unfold getA; rw [hj]; rfl
theorem getA_none {A : List (K × V)} {k : K} : getA A k = none ↔ k ∉ A.map (·.1) := by
  unfold getA; rw [Option.map_eq_none_iff, first_none]
theorem getA_perm {A A' : List (K × V)} (h : A.Perm A') (hn : (A.map (·.1)).Nodup) (k : K) : getA A k = getA A' k := by
  have hn' : (A'.map (·.1)).Nodup := (keys_perm h).nodup_iff.1 hn
  apply Option.ext
  intro v
  rw [getA_some hn, getA_some hn', h.mem_iff]
theorem cutA_none {A : List (K × V)} {k : K} (h : k ∉ A.map (·.1)) : cutA A k = A := by
  unfold cutA
  rw [List.filter_eq_self]
  intro p hp
  simp
  intro e
  exact h (List.mem_map.2 ⟨p, hp, e⟩)
theorem cutA_mid {k : K} {u : V} {L1 L2 : List (K × V)} (hn : ((L1 ++ (k, u) :: L2).map (·.1)).Nodup) : cutA (L1 ++ (k, u) :: L2) k = L1 ++ L2 := by
  simp only [List.map_append, List.map_cons, List.nodup_append, List.nodup_cons] at hn
  have h1 : cutA L1 k = L1 := cutA_none fun h => hn.2.2 k h k (by simp) rfl
  have h2 : cutA L2 k = L2 := cutA_none hn.2.1.1
  unfold cutA at *
  rw [List.filter_append, List.filter_cons, h1, h2]
  simp
theorem cutA_perm {A A' : List (K × V)} (h : A.Perm A') (k : K) : (cutA A k).Perm (cutA A' k) := h.filter _
theorem cutA_nodup {A : List (K × V)} (hn : (A.map (·.1)).Nodup) (k : K) : ((cutA A k).map (·.1)).Nodup := hn.sublist (List.Sublist.map _ List.filter_sublist)
theorem cutA_not {A : List (K × V)} (k : K) : k ∉ (cutA A k).map (·.1) := by
  intro h
  obtain ⟨p, hp, e⟩ := List.mem_map.1 h
  have := (List.mem_filter.1 hp).2
  simp at this
  exact this e
theorem first_mid {k : K} {L : List (K × V)} {j : Nat} {u : V} (h : firstI k L 0 = some (j, u)) : ∃ L1 L2, L = L1 ++ (k, u) :: L2 ∧ L1.length = j := by
  obtain ⟨d, h1, h2⟩ := first_ge h
  obtain rfl : j = d := by omega
  obtain ⟨hlt, hx⟩ := List.getElem?_eq_some_iff.1 h2
  exact ⟨L.take j, L.drop (j + 1), by rw [← hx]; simp, by simp; omega⟩

theorem run_lookupA (hk : KeyOK P kt kf) (ht : P.underlying ty = some (.map kt et)) {z : V} (hz : ∀ w, (zeroValue et).run P w = .ok (vf z) w) (h : MapAs kf vf b A w) (k : K) (ok : Bool) :
    (Instr.lookup ty (.map (some b)) (kf k) ok).run P w = .ok (if ok then .tuple #[vf ((getA A k).getD z), .bool (getA A k).isSome] else vf ((getA A k).getD z)) w := by
  obtain ⟨es, c, L, h1, h2, h3, h4, _⟩ := h
  have hf := run_find hk k h2 w
  have hg : getA A k = (firstI k L 0).map (·.2) := (getA_perm h3 ((keys_perm h3).nodup_iff.2 h4) k).symm
  unfold Instr.lookup
  simp only [Sem.run_bind, run_underlying ht, Result.andThen_ok, MapKept.run_getObj_map h1, Sem.run_pure, hk.check, hf]
  rw [hg]
  cases hfk : firstI k L 0 with
  | none => cases ok <;> simp [hz]
  | some p => cases ok <;> simp
theorem born_set {es : Array MapEntry} {j : Nat} {key : Value} {val : Value} : (es.modify j fun e => { e with key := key, val := val }).toList.map (·.born) = es.toList.map (·.born) := by
  apply List.ext_getElem?
  intro i
  simp only [List.getElem?_map, Array.getElem?_toList, Array.getElem?_modify]
  by_cases hij : j = i
  · subst hij; cases es[j]? <;> simp
  · simp [hij]
theorem run_updateA {l0 : List Res} (hk : KeyOK P kt kf) (ht : P.underlying ty = some (.map kt et)) (H : Own B w0 w l) (k : K) (v : V) (hrep : Rep (mapA kf vf b A) (mapA kf vf b ((k, v) :: cutA A k)) l l0) :
    ∃ w', (Instr.mapUpdate ty (.map (some b)) (kf k) (vf v)).run P w = .ok () w' ∧ Own B w0 w' l0 := by
  obtain ⟨es, c, L, h1, h2, h3, h4, h5, h6⟩ := H.asA hrep.mem
  have hf := run_find hk k h2 w
  have hnL := (keys_perm h3).nodup_iff.2 h4
  have e3 : (((k, v) :: cutA A k).map (·.1)).Nodup := by
    rw [List.map_cons, List.nodup_cons]
    exact ⟨cutA_not k, cutA_nodup h4 k⟩
  unfold Instr.mapUpdate
  simp only [Sem.run_bind, run_underlying ht, Result.andThen_ok, MapKept.run_getObj_map h1, hk.check, hf]
  cases hfk : firstI k L 0 with
  | none =>
    refine ⟨_, by simp only [Option.map_none, MapKept.run_setObj_map _ h1]; rfl, H.changeA hrep h1 _ _ (L ++ [(k, v)]) (by simp [h2]) ?_ e3 ?_ ?_⟩
    · have hc : cutA L k = L := cutA_none (first_none.1 hfk)
      refine (List.perm_append_singleton _ _).trans (.cons _ ?_)
      rw [← hc]; exact cutA_perm h3 k
    · simp only [Array.toList_push, List.map_append, List.map_cons, List.map_nil]
      refine List.nodup_append.2 ⟨h5, by simp, fun x hx y hy => ?_⟩
      obtain ⟨e, he, rfl⟩ := List.mem_map.1 hx
      obtain rfl : y = c := by simpa using hy
      have := h6 e he; omega
    · intro e he
      simp only [Array.toList_push, List.mem_append, List.mem_singleton] at he
      rcases he with he | rfl
      · have := h6 e he; omega
      · simp
  | some p =>
    obtain ⟨j, u⟩ := p
    obtain ⟨d, hd, hL⟩ := first_ge hfk
    obtain rfl : j = d := by omega
    have he : ∃ e, es[j]? = some e ∧ e.key = kf k := by
      have hh := congrArg (·[j]?) h2
      simp only [List.getElem?_map, hL, Option.map_some] at hh
      cases he : es.toList[j]? with
      | none => simp [he] at hh
      | some e => simp [he] at hh; exact ⟨e, by simpa using he, hh.1⟩
    obtain ⟨e, he, hek⟩ := he
    have hst : (Instr.keyThatStays (kf k) (kf k)).run P w = .ok (kf k) w := by simp [Instr.keyThatStays, hk.same]
    refine ⟨_, by simp only [Option.map_some, he, Option.getD_some, hek, Sem.run_bind, hst, Result.andThen_ok, MapKept.run_setObj_map _ h1]; rfl, H.changeA hrep h1 _ _ (L.set j (k, v)) ?_ ?_ e3 ?_ ?_⟩
    · apply List.ext_getElem?
      intro i
      have hh := congrArg (·[i]?) h2
      simp only [List.getElem?_map, Array.getElem?_toList] at hh
      simp only [List.getElem?_map, Array.getElem?_toList, Array.getElem?_modify, List.getElem?_set]
      by_cases hij : j = i
      · subst hij
        have : j < L.length := (List.getElem?_eq_some_iff.1 hL).1
        simp [he, this]
      · simp [hij, hh]
    · obtain ⟨L1, L2, rfl, rfl⟩ := first_mid hfk
      have hc := cutA_perm h3 k
      rw [cutA_mid hnL] at hc
      have : (L1 ++ (k, u) :: L2).set L1.length (k, v) = L1 ++ (k, v) :: L2 := by simp
      rw [this]
      exact List.perm_middle.trans (.cons _ hc)
    · rw [born_set]; exact h5
    · intro x hx
      have hb : x.born ∈ (es.modify j fun e => { e with key := kf k, val := vf v }).toList.map (·.born) := List.mem_map.2 ⟨x, hx, rfl⟩
      rw [born_set] at hb
      obtain ⟨y, hy, e⟩ := List.mem_map.1 hb
      rw [← e]; exact h6 y hy
theorem run_deleteA {l0 : List Res} (hk : KeyOK P kt kf) (ht : P.underlying ty = some (.map kt et)) (H : Own B w0 w l) (k : K) (hrep : Rep (mapA kf vf b A) (mapA kf vf b (cutA A k)) l l0) (aty : Array TypeId) (rt : TypeId) (hat : aty[0]? = some ty) :
    ∃ w', (Builtin.delete_ aty rt #[.map (some b), kf k]).run P w = .ok (.tuple #[]) w' ∧ Own B w0 w' l0 := by
  obtain ⟨es, c, L, h1, h2, h3, h4, h5, h6⟩ := H.asA hrep.mem
  have hf := run_find hk k h2 w
  have hnL := (keys_perm h3).nodup_iff.2 h4
  have e3 := cutA_nodup h4 k
  unfold Builtin.delete_
  simp only [hat, List.getElem?_toArray, List.getElem?_cons_zero, List.getElem?_cons_succ, Sem.run_bind, run_underlying ht, Result.andThen_ok, MapKept.run_getObj_map h1, hk.check, hf]
  cases hfk : firstI k L 0 with
  | none =>
    refine ⟨_, by simp only [Option.map_none, Sem.run_bind, MapKept.run_setObj_map _ h1, Result.andThen_ok, Sem.run_pure], H.changeA hrep h1 _ _ L h2 ?_ e3 h5 h6⟩
    have hc : cutA L k = L := cutA_none (first_none.1 hfk)
    rw [← hc]; exact cutA_perm h3 k
  | some p =>
    obtain ⟨j, u⟩ := p
    have hlen : es.size = L.length := by have := congrArg List.length h2; simpa using this
    refine ⟨_, by simp only [Option.map_some, Sem.run_bind, MapKept.run_setObj_map _ h1, Result.andThen_ok, Sem.run_pure]; rfl, H.changeA hrep h1 _ _ (L.eraseIdx j) ?_ ?_ e3 ?_ ?_⟩
    · rw [Array.toList_eraseIdxIfInBounds, map_eraseIdx, h2, map_eraseIdx]
    · obtain ⟨L1, L2, rfl, rfl⟩ := first_mid hfk
      have hc := cutA_perm h3 k
      rw [cutA_mid hnL] at hc
      have : (L1 ++ (k, u) :: L2).eraseIdx L1.length = L1 ++ L2 := by rw [List.eraseIdx_append_of_length_le (Nat.le_refl _)]; simp
      rw [this]
      exact hc
    · rw [Array.toList_eraseIdxIfInBounds, map_eraseIdx]
      exact h5.sublist (List.eraseIdx_sublist _ _)
    · intro e he
      rw [Array.toList_eraseIdxIfInBounds] at he
      exact h6 e ((List.eraseIdx_sublist _ _).subset he)
end Go.Proofs.Ytlhmjhildlnokaa
