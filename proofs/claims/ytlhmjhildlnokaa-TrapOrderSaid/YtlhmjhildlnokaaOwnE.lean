/-
  Laws on two assignments to entries of maps in one statement (the entry first, then what is stored). Nothing of the program stands here.
-/
import Derived.Test.YtlhmjhildlnokaaOwnL
namespace Go.Proofs.Ytlhmjhildlnokaa
set_option linter.unusedVariables false
set_option linter.unusedSectionVars false
set_option linter.unusedSimpArgs false
open Go.RowKit Go.MapKept

variable {K V : Type} [DecidableEq K]
variable {P : Program} {kt : TypeId} {kf : K → Value} {vf : V → Value} {B : Nat} {w0 w w' : World} {l l' : List Res} {ty et : TypeId} {b : Nat} {A : List (K × V)}
variable {o : Oper} {a : Act} {Q : Exit → Act → World → Prop} {x y z : Operand} {C : Act → World → Prop}
/-- A map in which a key's entry is known by its stamp. -/
def MapSt (kf : K → Value) (vf : V → Value) (b : Nat) (A : List (K × V)) (k : K) (st : Int) (w : World) : Prop :=
  ∃ es clock, ∃ L : List (K × V), ∃ (j : Nat) (u : V) (e : MapEntry), w.heap[b]? = some (.map es clock) ∧ es.toList.map (fun e => (e.key, e.val)) = L.map (fun p => (kf p.1, vf p.2)) ∧ L.Perm A ∧ (A.map (·.1)).Nodup ∧ (es.toList.map (·.born)).Nodup ∧ (∀ e ∈ es.toList, e.born < clock) ∧ L[j]? = some (k, u) ∧ es[j]? = some e ∧ (e.born : Int) = st
def mapSt (kf : K → Value) (vf : V → Value) (b : Nat) (A : List (K × V)) (k : K) (st : Int) : Res := .any false (fun k => k = b) (MapSt kf vf b A k st)
theorem mapSt_holds {k : K} {st : Int} (h : MapSt kf vf b A k st w) : (mapSt kf vf b A k st).holds w := by
  intro w' hw
  obtain ⟨es, c, L, j, u, e, h1, h2⟩ := h
  exact ⟨es, c, L, j, u, e, by rw [hw b rfl]; exact h1, h2⟩
theorem born_find : ∀ {l : List MapEntry} {j : Nat} {e : MapEntry}, (l.map (·.born)).Nodup → l[j]? = some e → l.findIdx? (fun e' => ((e'.born : Nat) : Int) == ((e.born : Nat) : Int)) = some j
  | [], _, _, _, h => by simp at h
  | a :: r, 0, e, hn, h => by
    obtain rfl : a = e := by simpa using h
    simp [List.findIdx?_cons]
  | a :: r, j + 1, e, hn, h => by
    simp only [List.map_cons, List.nodup_cons] at hn
    have h' : r[j]? = some e := by simpa using h
    have hne : a.born ≠ e.born := fun e1 => hn.1 (List.mem_map.2 ⟨e, List.mem_of_getElem? h', e1.symm⟩)
    have hb : (((a.born : Nat) : Int) == ((e.born : Nat) : Int)) = false := by
      simp only [beq_eq_false_iff_ne, ne_eq, Int.natCast_inj]; exact hne
    rw [List.findIdx?_cons, hb]
    simp [born_find hn.2 h']
theorem Own.changeSt {r : Res} {l0 : List Res} {es : Array MapEntry} {clock : Nat} (H : Own B w0 w l) (hr : r.ro = false) (hf : ∀ k, r.foot k ↔ k = b) {r' : Res} (hr' : r'.ro = false) (hf' : ∀ k, r'.foot k ↔ k = b) (hrep : Rep r r' l l0) (h1 : w.heap[b]? = some (.map es clock)) (es' : Array MapEntry) (c' : Nat)
    (hh : r'.holds { w with heap := w.heap.setIfInBounds b (.map es' c') }) : Own B w0 { w with heap := w.heap.setIfInBounds b (.map es' c') } l0 := by
  have hlt := H.lt _ hrep.mem b ((hf b).2 rfl)
  obtain ⟨g1, g2⟩ := heap_set (o' := .map es' c') h1
  refine H.change hrep hr hr' (.mk6 rfl rfl rfl (by simp) (fun k hk => g2 k (by have := hlt.2 hr; omega)) (Nat.le_refl _)) (fun k _ hne => g2 k fun e => hne ((hf k).2 e)) hh (fun k hk => ?_) (fun k hk => .inl ((hf k).2 ((hf' k).1 hk)))
  obtain rfl := (hf' k).1 hk
  simpa using hlt.1
theorem run_entryA {l0 : Int → List Res} (hk : KeyOK P kt kf) (ht : P.underlying ty = some (.map kt et)) {zv : V} (hz : ∀ w, (zeroValue et).run P w = .ok (vf zv) w) (H : Own B w0 w l) (k : K) (hrep : ∀ st, Rep (mapA kf vf b A) (mapSt kf vf b ((k, (getA A k).getD zv) :: cutA A k) k st) l (l0 st)) :
    ∃ w' v0 st, (Instr.mapEntry ty (.map (some b)) (kf k)).run P w = .ok (.tuple #[v0, .int .i64 st]) w' ∧ Own B w0 w' (l0 st) := by
  obtain ⟨es, c, L, h1, h2, h3, h4, h5, h6⟩ := H.asA (hrep 0).mem
  have hf := run_find hk k h2 w
  have hnL := (keys_perm h3).nodup_iff.2 h4
  have e3 : (((k, (getA A k).getD zv) :: cutA A k).map (·.1)).Nodup := by
    rw [List.map_cons, List.nodup_cons]
    exact ⟨cutA_not k, cutA_nodup h4 k⟩
  have hg : getA A k = (firstI k L 0).map (·.2) := (getA_perm h3 hnL k).symm
  obtain ⟨g1, g2⟩ : (∀ es' c', ({ w with heap := w.heap.setIfInBounds b (.map es' c') } : World).heap[b]? = some (.map es' c')) ∧ True := ⟨fun es' c' => (heap_set (o' := .map es' c') h1).1, trivial⟩
  unfold Instr.mapEntry
  simp only [Sem.run_bind, run_underlying ht, Result.andThen_ok, MapKept.run_getObj_map h1, hk.check, hf]
  cases hfk : firstI k L 0 with
  | none =>
    have hgn : getA A k = none := by rw [hg, hfk]; rfl
    refine ⟨_, _, (c : Int), by simp only [Option.map_none, Sem.run_bind, hz, Result.andThen_ok, MapKept.run_setObj_map _ h1]; rfl, ?_⟩
    refine H.changeSt (r := mapA kf vf b A) rfl (fun _ => Iff.rfl) rfl (fun _ => Iff.rfl) (hrep _) h1 _ _ (mapSt_holds (K := K) (V := V) ⟨_, _, L ++ [(k, zv)], L.length, zv, ⟨kf k, vf zv, c⟩, g1 _ _, by simp [h2], ?_, e3, ?_, ?_, by simp, ?_, rfl⟩)
    · have hc : cutA L k = L := cutA_none (first_none.1 hfk)
      rw [hgn]
      refine (List.perm_append_singleton _ _).trans (.cons _ ?_)
      rw [← hc]; exact cutA_perm h3 k
    · simp only [Array.toList_push, List.map_append, List.map_cons, List.map_nil]
      refine List.nodup_append.2 ⟨h5, by simp, fun x hx y hy => ?_⟩
      obtain ⟨e, he, rfl⟩ := List.mem_map.1 hx
      obtain rfl : y = c := by simpa using hy
      have := h6 e he; omega
    · intro e he
      simp only [Array.toList_push, List.mem_append, List.mem_singleton] at he
      rcases he with he | rfl
      · have := h6 e he; omega
      · simp
    · have hlen : es.size = L.length := by have := congrArg List.length h2; simpa using this
      rw [← hlen]; simp
  | some p =>
    obtain ⟨j, u⟩ := p
    obtain ⟨d, hd, hL⟩ := first_ge hfk
    obtain rfl : j = d := by omega
    have he : ∃ e, es[j]? = some e ∧ e.key = kf k := by
      have hh := congrArg (·[j]?) h2
      simp only [List.getElem?_map, hL, Option.map_some] at hh
      cases he : es.toList[j]? with
      | none => simp [he] at hh
      | some e => simp [he] at hh; exact ⟨e, by simpa using he, hh.1⟩
    obtain ⟨e, he, hek⟩ := he
    have hgs : getA A k = some u := by rw [hg, hfk]; rfl
    have hst : (Instr.keyThatStays (kf k) (kf k)).run P w = .ok (kf k) w := by simp [Instr.keyThatStays, hk.same]
    have hsame : (es.modify j fun e => { e with key := kf k }) = es := by
      apply Array.ext_getElem?
      intro i
      rw [Array.getElem?_modify]
      split
      · rename_i h; subst h; rw [he]; simp [← hek]
      · rfl
    refine ⟨_, _, (e.born : Int), by simp only [Option.map_some, he, Option.getD_some, hek, Sem.run_bind, hst, Result.andThen_ok, MapKept.run_setObj_map _ h1, hsame]; rfl, ?_⟩
    refine H.changeSt (r := mapA kf vf b A) rfl (fun _ => Iff.rfl) rfl (fun _ => Iff.rfl) (hrep _) h1 _ _ (mapSt_holds (K := K) (V := V) ⟨_, _, L, j, u, e, g1 _ _, h2, ?_, e3, h5, h6, hL, he, rfl⟩)
    rw [hgs]
    obtain ⟨L1, L2, rfl, rfl⟩ := first_mid hfk
    have hc := cutA_perm h3 k
    rw [cutA_mid hnL] at hc
    exact List.perm_middle.trans (.cons _ hc)
theorem run_storeA {l0 : List Res} {k : K} {st : Int} (H : Own B w0 w l) (v : V) (hrep : Rep (mapSt kf vf b A k st) (mapA kf vf b ((k, v) :: cutA A k)) l l0) :
    ∃ w', (Instr.entryStore ty (.map (some b)) (.int .i64 st) (vf v)).run P w = .ok () w' ∧ Own B w0 w' l0 := by
  obtain ⟨es, c, L, j, u, e, h1, h2, h3, h4, h5, h6, hL, he, hst⟩ := H.holds _ hrep.mem w fun _ _ => rfl
  subst hst
  have hnL := (keys_perm h3).nodup_iff.2 h4
  have e3 : (((k, v) :: cutA A k).map (·.1)).Nodup := by
    rw [List.map_cons, List.nodup_cons]
    exact ⟨cutA_not k, cutA_nodup h4 k⟩
  have hidx : es.findIdx? (fun e' => ((e'.born : Nat) : Int) == ((e.born : Nat) : Int)) = some j := by
    have := born_find (l := es.toList) h5 (by simpa using he)
    rw [← this]
    cases es; simp
  have hek : e.key = kf k := by
    have hh := congrArg (·[j]?) h2
    simp only [List.getElem?_map, hL, Option.map_some, Array.getElem?_toList, he] at hh
    injection hh with hh
    exact (Prod.mk.inj hh).1
  refine ⟨_, by simp only [Instr.entryStore, Sem.run_bind, MapKept.run_getObj_map h1, Result.andThen_ok, asInt, asIntOf, Sem.run_pure, hidx, MapKept.run_setObj_map _ h1]; rfl, ?_⟩
  obtain ⟨g1, g2⟩ := heap_set (o' := .map (es.modify j fun e => { e with val := vf v }) c) h1
  refine H.changeSt (r := mapSt kf vf b A k _) rfl (fun _ => Iff.rfl) rfl (fun _ => Iff.rfl) hrep h1 _ _ (mapA_holds ⟨_, _, L.set j (k, v), g1, ?_, ?_, e3, ?_, ?_⟩)
  · apply List.ext_getElem?
    intro i
    have hh := congrArg (·[i]?) h2
    simp only [List.getElem?_map, Array.getElem?_toList] at hh
    simp only [List.getElem?_map, Array.getElem?_toList, Array.getElem?_modify, List.getElem?_set]
    by_cases hij : j = i
    · subst hij
      have : j < L.length := (List.getElem?_eq_some_iff.1 hL).1
      simp [he, this, hek]
    · simp [hij, hh]
  · obtain ⟨L1, L2, rfl, rfl⟩ : ∃ L1 L2, L = L1 ++ (k, u) :: L2 ∧ L1.length = j := ⟨L.take j, L.drop (j + 1), by
      have hl := (List.getElem?_eq_some_iff.1 hL).1
      have := List.take_append_drop j L
      rw [List.drop_eq_getElem_cons hl, (List.getElem?_eq_some_iff.1 hL).2] at this
      exact this.symm, by have hl := (List.getElem?_eq_some_iff.1 hL).1; rw [List.length_take]; omega⟩
    have hc := cutA_perm h3 k
    rw [cutA_mid hnL] at hc
    have : (L1 ++ (k, u) :: L2).set L1.length (k, v) = L1 ++ (k, v) :: L2 := by simp
    rw [this]
    exact List.perm_middle.trans (.cons _ hc)
  · have : (es.modify j fun e => { e with val := vf v }).toList.map (·.born) = es.toList.map (·.born) := by
      apply List.ext_getElem?
      intro i
      simp only [List.getElem?_map, Array.getElem?_toList, Array.getElem?_modify]
      by_cases hij : j = i
      · subst hij; cases es[j]? <;> simp
      · simp [hij]
    rw [this]; exact h5
  · intro x hx
    obtain ⟨i, hi⟩ := List.getElem?_of_mem hx
    rw [Array.getElem?_toList, Array.getElem?_modify] at hi
    split at hi
    · rename_i hij
      subst hij
      rw [he] at hi
      obtain rfl : _ = x := by simpa using hi
      exact h6 e (List.mem_of_getElem? (by simpa using he))
    · exact h6 x (List.mem_of_getElem? (by simpa using hi))
theorem o_entA {l0 : Int → List Res} (hK : KeyOK P kt kf) {zv : V} {k : K} (ho : o.op = .mapEntry ty x y) (hx : a.eval x = .map (some b)) (hy : a.eval y = kf k) (H : Own B w0 w l)
    (hrep : ∀ st, Rep (mapA kf vf b A) (mapSt kf vf b ((k, (getA A k).getD zv) :: cutA A k) k st) l (l0 st)) (ht : P.underlying ty = some (.map kt et)) (hz : ∀ w, (zeroValue et).run P w = .ok (vf zv) w) (hk : ∀ w' v0 st, Own B w0 w' (l0 st) → C (a.put o.dst (.tuple #[v0, .int .i64 st])) w') : o.wp P a w C Q := by
  obtain ⟨w', v0, st, h1, h2⟩ := run_entryA (P := P) hK ht hz H k hrep
  unfold Oper.wp execOp
  simp only [ho, hx, hy, Sem.run_bind, h1]
  exact hk w' v0 st h2
theorem o_putA {l0 : List Res} {k : K} {st : Int} {v : V} (ho : o.op = .entryStore ty x y z) (hx : a.eval x = .map (some b)) (hy : a.eval y = .int .i64 st) (hv : a.eval z = vf v) (H : Own B w0 w l)
    (hrep : Rep (mapSt kf vf b A k st) (mapA kf vf b ((k, v) :: cutA A k)) l l0) (hk : ∀ w', Own B w0 w' l0 → C (a.put o.dst undef) w') : o.wp P a w C Q := by
  obtain ⟨w', h1, h2⟩ := run_storeA (P := P) (ty := ty) H v hrep
  unfold Oper.wp execOp
  simp only [ho, hx, hy, hv, Sem.run_bind, h1]
  exact hk w' h2
end Go.Proofs.Ytlhmjhildlnokaa
