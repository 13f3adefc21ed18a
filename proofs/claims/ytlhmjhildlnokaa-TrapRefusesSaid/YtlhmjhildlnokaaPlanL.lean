/-
  Plans: the plain law. When the program calls a plan right, so does the document. No walk stands here.
-/
import Derived.Test.YtlhmjhildlnokaaPlan4
import Derived.Test.YtlhmjhildlnokaaPlan7
import Derived.Test.YtlhmjhildlnokaaGeo2
namespace Go.Proofs.Ytlhmjhildlnokaa
set_option linter.unusedVariables false
set_option linter.unusedSimpArgs false

theorem all_same {f g : Nat → Bool} : ∀ (n : Nat), (∀ j, j < n → (List.range j).all g = true → f j = g j) → (List.range n).all f = (List.range n).all g
  | 0, _ => rfl
  | n + 1, h => by
    have ih := all_same n fun j hj => h j (by omega)
    rw [List.range_succ, List.all_append, List.all_append, ih]
    cases hg : (List.range n).all g with
    | false => rfl
    | true => simp [h n (by omega) hg]
theorem met_any (p : Pt) : ∀ (l : List Vt) (m : Pt → Option Bool), ((l.foldl (fun m v => upd m v.p true) m) p).getD false = ((m p).getD false || l.any fun u => decide (u.p = p))
  | [], m => by simp
  | v :: l, m => by
    rw [List.foldl_cons, met_any p l]
    by_cases h : v.p = p
    · have : upd m v.p true p = some true := by unfold upd; rw [if_pos h.symm]
      rw [this]; simp [h]
    · have : upd m v.p true p = m p := by unfold upd; rw [if_neg (fun e => h e.symm)]
      rw [this]; simp [h]
theorem metM_any (l : List Vt) (p : Pt) : (metM l p).getD false = l.any fun u => decide (u.p = p) := by
  have := met_any p l (fun _ => none)
  simpa [metM] using this
def pairP (a b : Int) : Pt := ⟨min a b, max a b⟩
theorem pair_same (a b c d : Int) : decide (pairP c d = pairP a b) = ((c == a && d == b) || (c == b && d == a)) := by
  rw [Bool.eq_iff_iff]
  simp only [pairP, decide_eq_true_eq, Pt.mk.injEq, Bool.or_eq_true, Bool.and_eq_true, beq_iff_eq]
  omega
theorem pair_any (a b : Int) : ∀ (l : List Eg) (m : Pt → Option Bool), ((l.foldl (fun m e => upd m ⟨min e.a e.b, max e.a e.b⟩ true) m) (pairP a b)).getD false = ((m (pairP a b)).getD false || linksB l a b)
  | [], m => by simp [linksB]
  | e :: l, m => by
    rw [List.foldl_cons, pair_any a b l]
    have hs := pair_same a b e.a e.b
    have hl : linksB (e :: l) a b = (((e.a == a && e.b == b) || (e.a == b && e.b == a)) || linksB l a b) := rfl
    rw [hl, ← hs]
    by_cases h : pairP e.a e.b = pairP a b
    · have : upd m ⟨min e.a e.b, max e.a e.b⟩ true (pairP a b) = some true := if_pos h.symm
      rw [this]; simp [h]
    · have : upd m ⟨min e.a e.b, max e.a e.b⟩ true (pairP a b) = m (pairP a b) := if_neg (fun q => h q.symm)
      rw [this]; simp [h]
theorem pairM_any (l : List Eg) (a b : Int) : (pairM l ⟨min a b, max a b⟩).getD false = linksB l a b := by
  have := pair_any a b l (fun _ => none)
  simpa [pairM, pairP] using this
/-- What the vertices' test says. -/
structure VOK (vs : List Vt) (j : Nat) (v : Vt) : Prop where
  pos : 1 ≤ v.id
  inr : inB v.p = true
  prev : 0 < j → prevV vs j < v.id
  new : ∀ (i : Nat) (u : Vt), i < j → vs[i]? = some u → u.p ≠ v.p
theorem vok_iff {vs : List Vt} {j : Nat} {v : Vt} (h : vs[j]? = some v) : vOKr vs j = true ↔ VOK vs j v := by
  unfold vOKr
  rw [h]
  simp only [Bool.not_eq_true', Bool.or_eq_false_iff, decide_eq_false_iff_not, Bool.and_eq_false_iff, Bool.not_eq_false', List.any_eq_false, decide_eq_true_eq]
  constructor
  · intro ⟨⟨h1, h2, h3⟩, h4⟩
    refine ⟨by omega, h3, fun hj => ?_, fun i u hi hu => h4 u (List.mem_of_getElem? (i := i) (by rw [List.getElem?_take, if_pos hi]; exact hu))⟩
    rcases h2 with h2 | h2
    · exact absurd hj h2
    · omega
  · intro ⟨h1, h2, h3, h4⟩
    refine ⟨⟨by omega, ?_, h2⟩, fun u hu => ?_⟩
    · by_cases hj : 0 < j
      · exact .inr (by have := h3 hj; omega)
      · exact .inl hj
    · obtain ⟨i, hi⟩ := List.getElem?_of_mem hu
      rw [List.getElem?_take] at hi
      split at hi
      · rename_i hij
        exact h4 i u hij hi
      · cases hi
theorem lastV_prev {vs : List Vt} {j : Nat} (hj : 0 < j) (hl : j ≤ vs.length) : lastV (vs.take j) = prevV vs j := by
  obtain ⟨k, rfl⟩ : ∃ k, j = k + 1 := ⟨j - 1, by omega⟩
  have hk : vs[k]? = some vs[k] := List.getElem?_eq_getElem (by omega)
  rw [lastV_step hk]
  unfold prevV
  rw [show k + 1 - 1 = k from rfl, hk]; rfl
theorem lastE_prev {es : List Eg} {j : Nat} (hj : 0 < j) (hl : j ≤ es.length) : lastE (es.take j) = prevE es j := by
  obtain ⟨k, rfl⟩ : ∃ k, j = k + 1 := ⟨j - 1, by omega⟩
  have hk : es[k]? = some es[k] := List.getElem?_eq_getElem (by omega)
  rw [lastE_step hk]
  unfold prevE
  rw [show k + 1 - 1 = k from rfl, hk]; rfl
theorem vOK_same (vs : List Vt) (j : Nat) (h : (List.range j).all (vOKr vs) = true) : vOK vs j = vOKr vs j := by
  unfold vOK vOKr
  cases hv : vs[j]? with
  | none => rfl
  | some v =>
    have hjl : j < vs.length := (List.getElem?_eq_some_iff.1 hv).1
    simp only [metM_any]
    have e1 : decide (v.id ≤ lastV (vs.take j)) = (decide (v.id < 1) || (decide (0 < j) && decide (v.id ≤ prevV vs j))) := by
      by_cases hj : 0 < j
      · rw [lastV_prev hj (by omega)]
        obtain ⟨k, rfl⟩ : ∃ k, j = k + 1 := ⟨j - 1, by omega⟩
        have hk : vs[k]? = some vs[k] := List.getElem?_eq_getElem (by omega)
        have := (vok_iff hk).1 (List.all_eq_true.1 h k (List.mem_range.2 (by omega)))
        have hp : prevV vs (k + 1) = vs[k].id := by unfold prevV; rw [show k + 1 - 1 = k from rfl, hk]; rfl
        rw [hp, Bool.eq_iff_iff]
        have := this.pos
        simp only [decide_eq_true_eq, Bool.or_eq_true, Bool.and_eq_true]
        omega
      · obtain rfl : j = 0 := by omega
        rw [Bool.eq_iff_iff]
        have e0 : lastV (vs.take 0) = 0 := rfl
        rw [e0]
        simp only [decide_eq_true_eq, Bool.or_eq_true, Bool.and_eq_true]
        omega
    rw [e1]
    simp only [Bool.or_assoc]
/-! ### Right vertices -/
structure RightV (vs : List Vt) : Prop where
  each : ∀ v ∈ vs, 1 ≤ v.id ∧ inB v.p = true
  two : vs.Pairwise fun u v => u.id < v.id ∧ u.p ≠ v.p
theorem pairwise_get {α : Type} {R : α → α → Prop} (l : List α) : l.Pairwise R ↔ ∀ (i j : Nat) (u v : α), i < j → l[i]? = some u → l[j]? = some v → R u v := by
  rw [List.pairwise_iff_getElem]
  constructor
  · intro h i j u v hij hu hv
    obtain ⟨hi, rfl⟩ := List.getElem?_eq_some_iff.1 hu
    obtain ⟨hj, rfl⟩ := List.getElem?_eq_some_iff.1 hv
    exact h i j hi hj hij
  · intro h i j hi hj hij
    exact h i j _ _ hij (List.getElem?_eq_getElem hi) (List.getElem?_eq_getElem hj)
theorem rightV_iff (vs : List Vt) : (List.range vs.length).all (vOKr vs) = true ↔ RightV vs := by
  constructor
  · intro h
    have key : ∀ j v, vs[j]? = some v → VOK vs j v := fun j v hv => (vok_iff hv).1 (List.all_eq_true.1 h j (List.mem_range.2 (List.getElem?_eq_some_iff.1 hv).1))
    refine ⟨fun v hv => ?_, ?_⟩
    · obtain ⟨j, hj⟩ := List.getElem?_of_mem hv
      exact ⟨(key j v hj).pos, (key j v hj).inr⟩
    · rw [pairwise_get]
      have lt : ∀ (j i : Nat) (u v : Vt), i < j → vs[i]? = some u → vs[j]? = some v → u.id < v.id := by
        intro j
        induction j with
        | zero => intro i u v h; omega
        | succ j ih =>
          intro i u v hij hu hv
          have hjl : j < vs.length := by have := (List.getElem?_eq_some_iff.1 hv).1; omega
          have hk : vs[j]? = some vs[j] := List.getElem?_eq_getElem hjl
          have hp : prevV vs (j + 1) = vs[j].id := by unfold prevV; rw [show j + 1 - 1 = j from rfl, hk]; rfl
          have h1 := (key (j + 1) v hv).prev (by omega)
          rw [hp] at h1
          by_cases e : i = j
          · subst e
            rw [hk] at hu; injection hu with hu; rw [← hu]; exact h1
          · have := ih i u _ (by omega) hu hk
            omega
      intro i j u v hij hu hv
      exact ⟨lt j i u v hij hu hv, (key j v hv).new i u hij hu⟩
  · intro ⟨h1, h2⟩
    rw [pairwise_get] at h2
    rw [List.all_eq_true]
    intro j hj
    have hj := List.mem_range.1 hj
    have hv : vs[j]? = some vs[j] := List.getElem?_eq_getElem hj
    rw [vok_iff hv]
    have := h1 _ (List.mem_of_getElem? hv)
    refine ⟨this.1, this.2, fun h0 => ?_, fun i u hij hu => (h2 i j u _ hij hu hv).2⟩
    obtain ⟨k, rfl⟩ : ∃ k, j = k + 1 := ⟨j - 1, by omega⟩
    have hk : vs[k]? = some vs[k] := List.getElem?_eq_getElem (by omega)
    have hp : prevV vs (k + 1) = vs[k].id := by unfold prevV; rw [show k + 1 - 1 = k from rfl, hk]; rfl
    rw [hp]
    exact (h2 k (k + 1) _ _ (by omega) hk hv).1
/-! ### Where a vertex is -/
theorem at_find (id : Int) : ∀ (l : List Vt) (m : Int → Option Pt), (l.Pairwise fun u v => u.id < v.id ∧ u.p ≠ v.p) → (l.foldl (fun m v => upd m v.id v.p) m) id = ((l.find? fun v => v.id == id).map (·.p)).or (m id)
  | [], m, _ => by simp
  | v :: l, m, h => by
    obtain ⟨h1, h2⟩ := List.pairwise_cons.1 h
    rw [List.foldl_cons, at_find id l _ h2]
    by_cases hv : v.id = id
    · have hn : (l.find? fun u => u.id == id) = none := by
        rw [List.find?_eq_none]
        intro u hu
        have := (h1 u hu).1
        simp only [beq_iff_eq]; omega
      rw [hn, List.find?_cons_of_pos (by simpa using hv)]
      simp [upd, hv]
    · rw [List.find?_cons_of_neg (by simpa using hv)]
      have : upd m v.id v.p id = m id := by unfold upd; rw [if_neg (fun e => hv e.symm)]
      rw [this]
theorem atM_find {vs : List Vt} (h : RightV vs) (id : Int) : atM vs id = (vs.find? fun v => v.id == id).map (·.p) := by
  have := at_find id vs (fun _ => none) h.two
  simpa [atM] using this
theorem atP_rpt {vs : List Vt} (h : RightV vs) (id : Int) : atP vs id = rpt vs id := by
  unfold atP rpt
  rw [atM_find h]
theorem atM_some {vs : List Vt} (h : RightV vs) (id : Int) : (atM vs id).isSome = (vs.find? fun v => v.id == id).isSome := by rw [atM_find h, Option.isSome_map]
/-- The point of a vertex that is there. -/
theorem rpt_in {vs : List Vt} (h : RightV vs) {id : Int} (hs : (vs.find? fun v => v.id == id).isSome = true) : inB (rpt vs id) = true := by
  obtain ⟨v, hv⟩ := Option.isSome_iff_exists.1 hs
  unfold rpt
  rw [hv]
  exact (h.each v (List.mem_of_find?_eq_some hv)).2
theorem rpt_ne {vs : List Vt} (h : RightV vs) {a b : Int} (hab : a ≠ b) (ha : (vs.find? fun v => v.id == a).isSome = true) (hb : (vs.find? fun v => v.id == b).isSome = true) : rpt vs a ≠ rpt vs b := by
  obtain ⟨v, hv⟩ := Option.isSome_iff_exists.1 ha
  obtain ⟨w, hw⟩ := Option.isSome_iff_exists.1 hb
  unfold rpt
  rw [hv, hw]
  have h1 := List.find?_some hv
  have h2 := List.find?_some hw
  simp only [beq_iff_eq] at h1 h2
  obtain ⟨i, hi⟩ := List.getElem?_of_mem (List.mem_of_find?_eq_some hv)
  obtain ⟨j, hj⟩ := List.getElem?_of_mem (List.mem_of_find?_eq_some hw)
  have h2' := (pairwise_get vs).1 h.two
  intro e
  rcases Nat.lt_trichotomy i j with q | q | q
  · exact (h2' i j v w q hi hj).2 e
  · subst q
    rw [hi] at hj
    injection hj with hj
    rw [hj] at h1
    omega
  · exact (h2' j i w v q hj hi).2 e.symm
theorem onB_R {p a b : Pt} (hp : inB p = true) (ha : inB a = true) (hb : inB b = true) : onB p a b = onR p a b := by
  unfold onB
  rw [hp, ha, hb, onL_onR]; rfl
theorem meetB_R {a b c d : Pt} (ha : inB a = true) (hb : inB b = true) (hc : inB c = true) (hd : inB d = true) (h1 : a ≠ b) (h2 : c ≠ d) : meetB a b c d = meetR a b c d := by
  unfold meetB
  rw [ha, hb, hc, hd, meet_eq a b c d h1 h2]
  simp [h1, h2]
theorem onWay_R {vs : List Vt} (h : RightV vs) {a b : Pt} (ha : inB a = true) (hb : inB b = true) : (vs.any fun v => onB v.p a b) = onWayR vs a b := by
  unfold onWayR
  rw [Bool.eq_iff_iff, List.any_eq_true, List.any_eq_true]
  constructor
  · rintro ⟨v, hv, h1⟩; exact ⟨v, hv, by rw [← onB_R (h.each v hv).2 ha hb]; exact h1⟩
  · rintro ⟨v, hv, h1⟩; exact ⟨v, hv, by rw [onB_R (h.each v hv).2 ha hb]; exact h1⟩
/-- Edges with ends that are there. -/
def EndsIn (vs : List Vt) (es : List Eg) : Prop := ∀ e ∈ es, e.a ≠ e.b ∧ (vs.find? fun v => v.id == e.a).isSome = true ∧ (vs.find? fun v => v.id == e.b).isSome = true
theorem cross_R {vs : List Vt} (h : RightV vs) {es : List Eg} (he : EndsIn vs es) {a b : Pt} (ha : inB a = true) (hb : inB b = true) (hab : a ≠ b) : crossB vs es a b = meetsR vs es a b := by
  unfold crossB meetsR
  rw [Bool.eq_iff_iff, List.any_eq_true, List.any_eq_true]
  have key : ∀ e ∈ es, meetB a b (atP vs e.a) (atP vs e.b) = meetR a b (rpt vs e.a) (rpt vs e.b) := by
    intro e hm
    obtain ⟨h1, h2, h3⟩ := he e hm
    rw [atP_rpt h, atP_rpt h]
    exact meetB_R ha hb (rpt_in h h2) (rpt_in h h3) hab (rpt_ne h h1 h2 h3)
  constructor
  · rintro ⟨e, hv, h1⟩; exact ⟨e, hv, by rw [← key e hv]; exact h1⟩
  · rintro ⟨e, hv, h1⟩; exact ⟨e, hv, by rw [key e hv]; exact h1⟩
/-! ### Right edges -/
structure EOK (vs : List Vt) (es : List Eg) (j : Nat) (e : Eg) : Prop where
  pos : 1 ≤ e.id
  prev : 0 < j → prevE es j < e.id
  ends : e.a ≠ e.b ∧ (vs.find? fun v => v.id == e.a).isSome = true ∧ (vs.find? fun v => v.id == e.b).isSome = true
  free : onWayR vs (rpt vs e.a) (rpt vs e.b) = false
  new : linksB (es.take j) e.a e.b = false
  apart : meetsR vs (es.take j) (rpt vs e.a) (rpt vs e.b) = false
theorem eok_iff {vs : List Vt} {es : List Eg} {j : Nat} {e : Eg} (h : es[j]? = some e) : eOKr vs es j = true ↔ EOK vs es j e := by
  unfold eOKr
  rw [h]
  simp only [Bool.not_eq_true', Bool.or_eq_false_iff, decide_eq_false_iff_not, Bool.and_eq_false_iff, Bool.not_eq_false', beq_eq_false_iff_ne]
  constructor
  · intro ⟨h1, h2, h3, h4, h5, h6, h7, h8⟩
    refine ⟨by omega, fun hj => ?_, ⟨h3, h4, h5⟩, h7, h6, h8⟩
    rcases h2 with h2 | h2
    · exact absurd hj h2
    · omega
  · intro ⟨h1, h2, ⟨h3, h4, h5⟩, h7, h6, h8⟩
    refine ⟨by omega, ?_, h3, h4, h5, h6, h7, h8⟩
    by_cases hj : 0 < j
    · exact .inr (by have := h2 hj; omega)
    · exact .inl hj
theorem ends_take {vs : List Vt} {es : List Eg} {j : Nat} (h : (List.range j).all (eOKr vs es) = true) : EndsIn vs (es.take j) := by
  intro e he
  obtain ⟨k, hk⟩ := List.getElem?_of_mem he
  rw [List.getElem?_take] at hk
  split at hk
  · rename_i hkj
    exact ((eok_iff hk).1 (List.all_eq_true.1 h k (List.mem_range.2 hkj))).ends
  · cases hk
theorem eOK_same {vs : List Vt} (hv : RightV vs) (es : List Eg) (j : Nat) (h : (List.range j).all (eOKr vs es) = true) : eOK vs es j = eOKr vs es j := by
  unfold eOK eOKr
  cases he : es[j]? with
  | none => rfl
  | some e =>
    have hjl : j < es.length := (List.getElem?_eq_some_iff.1 he).1
    simp only [pairM_any, atM_some hv, atP_rpt hv]
    have e1 : decide (e.id ≤ lastE (es.take j)) = (decide (e.id < 1) || (decide (0 < j) && decide (e.id ≤ prevE es j))) := by
      by_cases hj : 0 < j
      · rw [lastE_prev hj (by omega)]
        obtain ⟨k, rfl⟩ : ∃ k, j = k + 1 := ⟨j - 1, by omega⟩
        have hk : es[k]? = some es[k] := List.getElem?_eq_getElem (by omega)
        have := (eok_iff hk).1 (List.all_eq_true.1 h k (List.mem_range.2 (by omega)))
        have hp : prevE es (k + 1) = es[k].id := by unfold prevE; rw [show k + 1 - 1 = k from rfl, hk]; rfl
        rw [hp, Bool.eq_iff_iff]
        have := this.pos
        simp only [decide_eq_true_eq, Bool.or_eq_true, Bool.and_eq_true]
        omega
      · obtain rfl : j = 0 := by omega
        rw [Bool.eq_iff_iff]
        have e0 : lastE (es.take 0) = 0 := rfl
        rw [e0]
        simp only [decide_eq_true_eq, Bool.or_eq_true, Bool.and_eq_true]
        omega
    rw [e1]
    cases ha : (vs.find? fun v => v.id == e.a).isSome with
    | false => simp
    | true =>
      cases hb : (vs.find? fun v => v.id == e.b).isSome with
      | false => simp
      | true =>
        by_cases hab : e.a = e.b
        · simp [hab]
        · rw [onWay_R hv (rpt_in hv ha) (rpt_in hv hb), cross_R hv (ends_take h) (rpt_in hv ha) (rpt_in hv hb) (rpt_ne hv hab ha hb)]
          have : (e.a == e.b) = false := by simpa using hab
          rw [this]
          simp only [Bool.or_assoc, Bool.not_true, Bool.false_or]
theorem right_same (vs : List Vt) (es : List Eg) : rightB vs es = rightR vs es := by
  unfold rightB rightR
  rw [all_same vs.length fun j _ h => vOK_same vs j h]
  cases hv : (List.range vs.length).all (vOKr vs) with
  | false => simp
  | true => rw [all_same es.length fun j _ h => eOK_same ((rightV_iff vs).1 hv) es j h]
/-! ### Right plans, by twos -/
structure RightP (vs : List Vt) (es : List Eg) : Prop where
  few : vs.length ≤ 512 ∧ es.length ≤ 1024
  verts : RightV vs
  each : ∀ e ∈ es, 1 ≤ e.id ∧ (e.a ≠ e.b ∧ (vs.find? fun v => v.id == e.a).isSome = true ∧ (vs.find? fun v => v.id == e.b).isSome = true) ∧ onWayR vs (rpt vs e.a) (rpt vs e.b) = false
  two : es.Pairwise fun e f => e.id < f.id ∧ ((e.a == f.a && e.b == f.b) || (e.a == f.b && e.b == f.a)) = false ∧ meetR (rpt vs f.a) (rpt vs f.b) (rpt vs e.a) (rpt vs e.b) = false
theorem any_take {α : Type} {l : List α} {j : Nat} {f : α → Bool} : (l.take j).any f = false ↔ ∀ (i : Nat) (u : α), i < j → l[i]? = some u → f u = false := by
  rw [List.any_eq_false]
  constructor
  · intro h i u hi hu
    have := h u (List.mem_of_getElem? (i := i) (by rw [List.getElem?_take, if_pos hi]; exact hu))
    simpa using this
  · intro h u hu
    obtain ⟨i, hi⟩ := List.getElem?_of_mem hu
    rw [List.getElem?_take] at hi
    split at hi
    · rename_i hij
      simpa using h i u hij hi
    · cases hi
theorem right_iff (vs : List Vt) (es : List Eg) : rightR vs es = true ↔ RightP vs es := by
  unfold rightR
  simp only [Bool.and_eq_true, Bool.not_eq_true', Bool.or_eq_false_iff, decide_eq_false_iff_not, Nat.not_lt, rightV_iff]
  constructor
  · intro ⟨h0, hv, h⟩
    have key : ∀ j e, es[j]? = some e → EOK vs es j e := fun j e he => (eok_iff he).1 (List.all_eq_true.1 h j (List.mem_range.2 (List.getElem?_eq_some_iff.1 he).1))
    refine ⟨h0, hv, fun e he => ?_, ?_⟩
    · obtain ⟨j, hj⟩ := List.getElem?_of_mem he
      have := key j e hj
      exact ⟨this.pos, this.ends, this.free⟩
    · rw [pairwise_get]
      have lt : ∀ (j i : Nat) (u v : Eg), i < j → es[i]? = some u → es[j]? = some v → u.id < v.id := by
        intro j
        induction j with
        | zero => intro i u v h; omega
        | succ j ih =>
          intro i u v hij hu hv
          have hjl : j < es.length := by have := (List.getElem?_eq_some_iff.1 hv).1; omega
          have hk : es[j]? = some es[j] := List.getElem?_eq_getElem hjl
          have hp : prevE es (j + 1) = es[j].id := by unfold prevE; rw [show j + 1 - 1 = j from rfl, hk]; rfl
          have h1 := (key (j + 1) v hv).prev (by omega)
          rw [hp] at h1
          by_cases e : i = j
          · subst e
            rw [hk] at hu; injection hu with hu; rw [← hu]; exact h1
          · have := ih i u _ (by omega) hu hk
            omega
      intro i j u v hij hu hv
      exact ⟨lt j i u v hij hu hv, any_take.1 (key j v hv).new i u hij hu, any_take.1 (key j v hv).apart i u hij hu⟩
  · intro ⟨h0, hv, h1, h2⟩
    rw [pairwise_get] at h2
    refine ⟨h0, hv, ?_⟩
    rw [List.all_eq_true]
    intro j hj
    have hj := List.mem_range.1 hj
    have he : es[j]? = some es[j] := List.getElem?_eq_getElem hj
    rw [eok_iff he]
    have := h1 _ (List.mem_of_getElem? he)
    refine ⟨this.1, fun h0 => ?_, this.2.1, this.2.2, any_take.2 fun i u hij hu => (h2 i j u _ hij hu he).2.1, any_take.2 fun i u hij hu => (h2 i j u _ hij hu he).2.2⟩
    obtain ⟨k, rfl⟩ : ∃ k, j = k + 1 := ⟨j - 1, by omega⟩
    have hk : es[k]? = some es[k] := List.getElem?_eq_getElem (by omega)
    have hp : prevE es (k + 1) = es[k].id := by unfold prevE; rw [show k + 1 - 1 = k from rfl, hk]; rfl
    rw [hp]
    exact (h2 k (k + 1) _ _ (by omega) hk he).1
end Go.Proofs.Ytlhmjhildlnokaa
