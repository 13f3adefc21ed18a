/-
  Plans: the plain law. When the program calls a plan right, so does the document. No walk stands here.
-/
import Derived.Test.YtlhmjhildlnokaaPlan4
import Derived.Test.YtlhmjhildlnokaaPlan7a
import Derived.Test.YtlhmjhildlnokaaGeo2
import Derived.Test.YtlhmjhildlnokaaTrap6
import Derived.Test.YtlhmjhildlnokaaTrap5b
import Derived.Test.YtlhmjhildlnokaaTrap3
import Derived.Test.YtlhmjhildlnokaaBase
import Derived.Laws.StructEq
import Derived.Test.YtlhmjhildlnokaaTrap4
import Derived.Test.YtlhmjhildlnokaaTrap5
import Derived.WalkMore
import Derived.Test.YtlhmjhildlnokaaTrap2
import Derived.Test.YtlhmjhildlnokaaSortK
import Derived.Test.YtlhmjhildlnokaaLayT
import Derived.Test.YtlhmjhildlnokaaTrap6p
import Derived.Test.YtlhmjhildlnokaaTrap0
import Derived.Test.YtlhmjhildlnokaaPlan6a
namespace Go.Proofs.Ytlhmjhildlnokaa
set_option linter.unusedVariables false
set_option linter.unusedSimpArgs false

theorem all_same {f g : Nat → Bool} : ∀ (n : Nat), (∀ j, j < n → (List.range j).all g = true → f j = g j) → (List.range n).all f = (List.range n).all g
  | 0, _ => rfl
  | n + 1, h => by
    have ih := all_same n fun j hj => h j (by omega)
    rw [List.range_succ, List.all_append, List.all_append, ih]
    cases hg : (List.range n).all g with
    | false => rfl
    | true => simp [h n (by omega) hg]
theorem met_any (p : Pt) : ∀ (l : List Vt) (m : Pt → Option Bool), ((l.foldl (fun m v => upd m v.p true) m) p).getD false = ((m p).getD false || l.any fun u => decide (u.p = p))
  | [], m => by simp
  | v :: l, m => by
    rw [List.foldl_cons, met_any p l]
    by_cases h : v.p = p
    · have : upd m v.p true p = some true := by unfold upd; rw [if_pos h.symm]
      rw [this]; simp [h]
    · have : upd m v.p true p = m p := by unfold upd; rw [if_neg (fun e => h e.symm)]
      rw [this]; simp [h]
theorem metM_any (l : List Vt) (p : Pt) : (metM l p).getD false = l.any fun u => decide (u.p = p) := by
  have := met_any p l (fun _ => none)
  simpa [metM] using this
def pairP (a b : Int) : Pt := ⟨min a b, max a b⟩
theorem pair_same (a b c d : Int) : decide (pairP c d = pairP a b) = ((c == a && d == b) || (c == b && d == a)) := by
  rw [Bool.eq_iff_iff]
  simp only [pairP, decide_eq_true_eq, Pt.mk.injEq, Bool.or_eq_true, Bool.and_eq_true, beq_iff_eq]
  omega
theorem pair_any (a b : Int) : ∀ (l : List Eg) (m : Pt → Option Bool), ((l.foldl (fun m e => upd m ⟨min e.a e.b, max e.a e.b⟩ true) m) (pairP a b)).getD false = ((m (pairP a b)).getD false || linksB l a b)
  | [], m => by simp [linksB]
  | e :: l, m => by
    rw [List.foldl_cons, pair_any a b l]
    have hs := pair_same a b e.a e.b
    have hl : linksB (e :: l) a b = (((e.a == a && e.b == b) || (e.a == b && e.b == a)) || linksB l a b) := rfl
    rw [hl, ← hs]
    by_cases h : pairP e.a e.b = pairP a b
    · have : upd m ⟨min e.a e.b, max e.a e.b⟩ true (pairP a b) = some true := if_pos h.symm
      rw [this]; simp [h]
    · have : upd m ⟨min e.a e.b, max e.a e.b⟩ true (pairP a b) = m (pairP a b) := if_neg (fun q => h q.symm)
      rw [this]; simp [h]
theorem pairM_any (l : List Eg) (a b : Int) : (pairM l ⟨min a b, max a b⟩).getD false = linksB l a b := by
  have := pair_any a b l (fun _ => none)
  simpa [pairM, pairP] using this
/-- What the vertices' test says. -/
structure VOK (vs : List Vt) (j : Nat) (v : Vt) : Prop where
  pos : 1 ≤ v.id
  inr : inB v.p = true
  prev : 0 < j → prevV vs j < v.id
  new : ∀ (i : Nat) (u : Vt), i < j → vs[i]? = some u → u.p ≠ v.p
theorem vok_iff {vs : List Vt} {j : Nat} {v : Vt} (h : vs[j]? = some v) : vOKr vs j = true ↔ VOK vs j v := by
  unfold vOKr
  rw [h]
  simp only [Bool.not_eq_true', Bool.or_eq_false_iff, decide_eq_false_iff_not, Bool.and_eq_false_iff, Bool.not_eq_false', List.any_eq_false, decide_eq_true_eq]
  constructor
  · intro ⟨⟨h1, h2, h3⟩, h4⟩
    refine ⟨by omega, h3, fun hj => ?_, fun i u hi hu => h4 u (List.mem_of_getElem? (i := i) (by rw [List.getElem?_take, if_pos hi]; exact hu))⟩
    rcases h2 with h2 | h2
    · exact absurd hj h2
    · omega
  · intro ⟨h1, h2, h3, h4⟩
    refine ⟨⟨by omega, ?_, h2⟩, fun u hu => ?_⟩
    · by_cases hj : 0 < j
      · exact .inr (by have := h3 hj; omega)
      · exact .inl hj
    · obtain ⟨i, hi⟩ := List.getElem?_of_mem hu
      rw [List.getElem?_take] at hi
      split at hi
      · rename_i hij
        exact h4 i u hij hi
      · cases hi
theorem lastV_prev {vs : List Vt} {j : Nat} (hj : 0 < j) (hl : j ≤ vs.length) : lastV (vs.take j) = prevV vs j := by
  obtain ⟨k, rfl⟩ : ∃ k, j = k + 1 := ⟨j - 1, by omega⟩
  have hk : vs[k]? = some vs[k] := List.getElem?_eq_getElem (by omega)
  rw [lastV_step hk]
  unfold prevV
  rw [show k + 1 - 1 = k from rfl, hk]; rfl
theorem lastE_prev {es : List Eg} {j : Nat} (hj : 0 < j) (hl : j ≤ es.length) : lastE (es.take j) = prevE es j := by
  obtain ⟨k, rfl⟩ : ∃ k, j = k + 1 := ⟨j - 1, by omega⟩
  have hk : es[k]? = some es[k] := List.getElem?_eq_getElem (by omega)
  rw [lastE_step hk]
  unfold prevE
  rw [show k + 1 - 1 = k from rfl, hk]; rfl
theorem vOK_same (vs : List Vt) (j : Nat) (h : (List.range j).all (vOKr vs) = true) : vOK vs j = vOKr vs j := by
  unfold vOK vOKr
  cases hv : vs[j]? with
  | none => rfl
  | some v =>
    have hjl : j < vs.length := (List.getElem?_eq_some_iff.1 hv).1
    simp only [metM_any]
    have e1 : decide (v.id ≤ lastV (vs.take j)) = (decide (v.id < 1) || (decide (0 < j) && decide (v.id ≤ prevV vs j))) := by
      by_cases hj : 0 < j
      · rw [lastV_prev hj (by omega)]
        obtain ⟨k, rfl⟩ : ∃ k, j = k + 1 := ⟨j - 1, by omega⟩
        have hk : vs[k]? = some vs[k] := List.getElem?_eq_getElem (by omega)
        have := (vok_iff hk).1 (List.all_eq_true.1 h k (List.mem_range.2 (by omega)))
        have hp : prevV vs (k + 1) = vs[k].id := by unfold prevV; rw [show k + 1 - 1 = k from rfl, hk]; rfl
        rw [hp, Bool.eq_iff_iff]
        have := this.pos
        simp only [decide_eq_true_eq, Bool.or_eq_true, Bool.and_eq_true]
        omega
      · obtain rfl : j = 0 := by omega
        rw [Bool.eq_iff_iff]
        have e0 : lastV (vs.take 0) = 0 := rfl
        rw [e0]
        simp only [decide_eq_true_eq, Bool.or_eq_true, Bool.and_eq_true]
        omega
    rw [e1]
    simp only [Bool.or_assoc]
/-! ### Right vertices -/
structure RightV (vs : List Vt) : Prop where
  each : ∀ v ∈ vs, 1 ≤ v.id ∧ inB v.p = true
  two : vs.Pairwise fun u v => u.id < v.id ∧ u.p ≠ v.p
theorem pairwise_get {α : Type} {R : α → α → Prop} (l : List α) : l.Pairwise R ↔ ∀ (i j : Nat) (u v : α), i < j → l[i]? = some u → l[j]? = some v → R u v := by
  rw [List.pairwise_iff_getElem]
  constructor
  · intro h i j u v hij hu hv
    obtain ⟨hi, rfl⟩ := List.getElem?_eq_some_iff.1 hu
    obtain ⟨hj, rfl⟩ := List.getElem?_eq_some_iff.1 hv
    exact h i j hi hj hij
  · intro h i j hi hj hij
    exact h i j _ _ hij (List.getElem?_eq_getElem hi) (List.getElem?_eq_getElem hj)
theorem rightV_iff (vs : List Vt) : (List.range vs.length).all (vOKr vs) = true ↔ RightV vs := by
  constructor
  · intro h
    have key : ∀ j v, vs[j]? = some v → VOK vs j v := fun j v hv => (vok_iff hv).1 (List.all_eq_true.1 h j (List.mem_range.2 (List.getElem?_eq_some_iff.1 hv).1))
    refine ⟨fun v hv => ?_, ?_⟩
    · obtain ⟨j, hj⟩ := List.getElem?_of_mem hv
      exact ⟨(key j v hj).pos, (key j v hj).inr⟩
    · rw [pairwise_get]
      have lt : ∀ (j i : Nat) (u v : Vt), i < j → vs[i]? = some u → vs[j]? = some v → u.id < v.id := by
        intro j
        induction j with
        | zero => intro i u v h; omega
        | succ j ih =>
          intro i u v hij hu hv
          have hjl : j < vs.length := by have := (List.getElem?_eq_some_iff.1 hv).1; omega
          have hk : vs[j]? = some vs[j] := List.getElem?_eq_getElem hjl
          have hp : prevV vs (j + 1) = vs[j].id := by unfold prevV; rw [show j + 1 - 1 = j from rfl, hk]; rfl
          have h1 := (key (j + 1) v hv).prev (by omega)
          rw [hp] at h1
          by_cases e : i = j
          · subst e
            rw [hk] at hu; injection hu with hu; rw [← hu]; exact h1
          · have := ih i u _ (by omega) hu hk
            omega
      intro i j u v hij hu hv
      exact ⟨lt j i u v hij hu hv, (key j v hv).new i u hij hu⟩
  · intro ⟨h1, h2⟩
    rw [pairwise_get] at h2
    rw [List.all_eq_true]
    intro j hj
    have hj := List.mem_range.1 hj
    have hv : vs[j]? = some vs[j] := List.getElem?_eq_getElem hj
    rw [vok_iff hv]
    have := h1 _ (List.mem_of_getElem? hv)
    refine ⟨this.1, this.2, fun h0 => ?_, fun i u hij hu => (h2 i j u _ hij hu hv).2⟩
    obtain ⟨k, rfl⟩ : ∃ k, j = k + 1 := ⟨j - 1, by omega⟩
    have hk : vs[k]? = some vs[k] := List.getElem?_eq_getElem (by omega)
    have hp : prevV vs (k + 1) = vs[k].id := by unfold prevV; rw [show k + 1 - 1 = k from rfl, hk]; rfl
    rw [hp]
    exact (h2 k (k + 1) _ _ (by omega) hk hv).1
/-! ### Where a vertex is -/
theorem at_find (id : Int) : ∀ (l : List Vt) (m : Int → Option Pt), (l.Pairwise fun u v => u.id < v.id ∧ u.p ≠ v.p) → (l.foldl (fun m v => upd m v.id v.p) m) id = ((l.find? fun v => v.id == id).map (·.p)).or (m id)
  | [], m, _ => by simp
  | v :: l, m, h => by
    obtain ⟨h1, h2⟩ := List.pairwise_cons.1 h
    rw [List.foldl_cons, at_find id l _ h2]
    by_cases hv : v.id = id
    · have hn : (l.find? fun u => u.id == id) = none := by
        rw [List.find?_eq_none]
        intro u hu
        have := (h1 u hu).1
        simp only [beq_iff_eq]; omega
      rw [hn, List.find?_cons_of_pos (by simpa using hv)]
      simp [upd, hv]
    · rw [List.find?_cons_of_neg (by simpa using hv)]
      have : upd m v.id v.p id = m id := by unfold upd; rw [if_neg (fun e => hv e.symm)]
      rw [this]
theorem atM_find {vs : List Vt} (h : RightV vs) (id : Int) : atM vs id = (vs.find? fun v => v.id == id).map (·.p) := by
  have := at_find id vs (fun _ => none) h.two
  simpa [atM] using this
theorem atP_rpt {vs : List Vt} (h : RightV vs) (id : Int) : atP vs id = rpt vs id := by
  unfold atP rpt
  rw [atM_find h]
theorem atM_some {vs : List Vt} (h : RightV vs) (id : Int) : (atM vs id).isSome = (vs.find? fun v => v.id == id).isSome := by rw [atM_find h, Option.isSome_map]
/-- The point of a vertex that is there. -/
theorem rpt_in {vs : List Vt} (h : RightV vs) {id : Int} (hs : (vs.find? fun v => v.id == id).isSome = true) : inB (rpt vs id) = true := by
  obtain ⟨v, hv⟩ := Option.isSome_iff_exists.1 hs
  unfold rpt
  rw [hv]
  exact (h.each v (List.mem_of_find?_eq_some hv)).2
theorem rpt_ne {vs : List Vt} (h : RightV vs) {a b : Int} (hab : a ≠ b) (ha : (vs.find? fun v => v.id == a).isSome = true) (hb : (vs.find? fun v => v.id == b).isSome = true) : rpt vs a ≠ rpt vs b := by
  obtain ⟨v, hv⟩ := Option.isSome_iff_exists.1 ha
  obtain ⟨w, hw⟩ := Option.isSome_iff_exists.1 hb
  unfold rpt
  rw [hv, hw]
  have h1 := List.find?_some hv
  have h2 := List.find?_some hw
  simp only [beq_iff_eq] at h1 h2
  obtain ⟨i, hi⟩ := List.getElem?_of_mem (List.mem_of_find?_eq_some hv)
  obtain ⟨j, hj⟩ := List.getElem?_of_mem (List.mem_of_find?_eq_some hw)
  have h2' := (pairwise_get vs).1 h.two
  intro e
  rcases Nat.lt_trichotomy i j with q | q | q
  · exact (h2' i j v w q hi hj).2 e
  · subst q
    rw [hi] at hj
    injection hj with hj
    rw [hj] at h1
    omega
  · exact (h2' j i w v q hj hi).2 e.symm
theorem onB_R {p a b : Pt} (hp : inB p = true) (ha : inB a = true) (hb : inB b = true) : onB p a b = onR p a b := by
  unfold onB
  rw [hp, ha, hb, onL_onR]; rfl
theorem meetB_R {a b c d : Pt} (ha : inB a = true) (hb : inB b = true) (hc : inB c = true) (hd : inB d = true) (h1 : a ≠ b) (h2 : c ≠ d) : meetB a b c d = meetR a b c d := by
  unfold meetB
  rw [ha, hb, hc, hd, meet_eq a b c d h1 h2]
  simp [h1, h2]
theorem onWay_R {vs : List Vt} (h : RightV vs) {a b : Pt} (ha : inB a = true) (hb : inB b = true) : (vs.any fun v => onB v.p a b) = onWayR vs a b := by
  unfold onWayR
  rw [Bool.eq_iff_iff, List.any_eq_true, List.any_eq_true]
  constructor
  · rintro ⟨v, hv, h1⟩; exact ⟨v, hv, by rw [← onB_R (h.each v hv).2 ha hb]; exact h1⟩
  · rintro ⟨v, hv, h1⟩; exact ⟨v, hv, by rw [onB_R (h.each v hv).2 ha hb]; exact h1⟩
/-- Edges with ends that are there. -/
def EndsIn (vs : List Vt) (es : List Eg) : Prop := ∀ e ∈ es, e.a ≠ e.b ∧ (vs.find? fun v => v.id == e.a).isSome = true ∧ (vs.find? fun v => v.id == e.b).isSome = true
theorem cross_R {vs : List Vt} (h : RightV vs) {es : List Eg} (he : EndsIn vs es) {a b : Pt} (ha : inB a = true) (hb : inB b = true) (hab : a ≠ b) : crossB vs es a b = meetsR vs es a b := by
  unfold crossB meetsR
  rw [Bool.eq_iff_iff, List.any_eq_true, List.any_eq_true]
  have key : ∀ e ∈ es, meetB a b (atP vs e.a) (atP vs e.b) = meetR a b (rpt vs e.a) (rpt vs e.b) := by
    intro e hm
    obtain ⟨h1, h2, h3⟩ := he e hm
    rw [atP_rpt h, atP_rpt h]
    exact meetB_R ha hb (rpt_in h h2) (rpt_in h h3) hab (rpt_ne h h1 h2 h3)
  constructor
  · rintro ⟨e, hv, h1⟩; exact ⟨e, hv, by rw [← key e hv]; exact h1⟩
  · rintro ⟨e, hv, h1⟩; exact ⟨e, hv, by rw [key e hv]; exact h1⟩
/-! ### Right edges -/
structure EOK (vs : List Vt) (es : List Eg) (j : Nat) (e : Eg) : Prop where
  pos : 1 ≤ e.id
  prev : 0 < j → prevE es j < e.id
  ends : e.a ≠ e.b ∧ (vs.find? fun v => v.id == e.a).isSome = true ∧ (vs.find? fun v => v.id == e.b).isSome = true
  free : onWayR vs (rpt vs e.a) (rpt vs e.b) = false
  new : linksB (es.take j) e.a e.b = false
  apart : meetsR vs (es.take j) (rpt vs e.a) (rpt vs e.b) = false
theorem eok_iff {vs : List Vt} {es : List Eg} {j : Nat} {e : Eg} (h : es[j]? = some e) : eOKr vs es j = true ↔ EOK vs es j e := by
  unfold eOKr
  rw [h]
  simp only [Bool.not_eq_true', Bool.or_eq_false_iff, decide_eq_false_iff_not, Bool.and_eq_false_iff, Bool.not_eq_false', beq_eq_false_iff_ne]
  constructor
  · intro ⟨h1, h2, h3, h4, h5, h6, h7, h8⟩
    refine ⟨by omega, fun hj => ?_, ⟨h3, h4, h5⟩, h7, h6, h8⟩
    rcases h2 with h2 | h2
    · exact absurd hj h2
    · omega
  · intro ⟨h1, h2, ⟨h3, h4, h5⟩, h7, h6, h8⟩
    refine ⟨by omega, ?_, h3, h4, h5, h6, h7, h8⟩
    by_cases hj : 0 < j
    · exact .inr (by have := h2 hj; omega)
    · exact .inl hj
theorem ends_take {vs : List Vt} {es : List Eg} {j : Nat} (h : (List.range j).all (eOKr vs es) = true) : EndsIn vs (es.take j) := by
  intro e he
  obtain ⟨k, hk⟩ := List.getElem?_of_mem he
  rw [List.getElem?_take] at hk
  split at hk
  · rename_i hkj
    exact ((eok_iff hk).1 (List.all_eq_true.1 h k (List.mem_range.2 hkj))).ends
  · cases hk
theorem eOK_same {vs : List Vt} (hv : RightV vs) (es : List Eg) (j : Nat) (h : (List.range j).all (eOKr vs es) = true) : eOK vs es j = eOKr vs es j := by
  unfold eOK eOKr
  cases he : es[j]? with
  | none => rfl
  | some e =>
    have hjl : j < es.length := (List.getElem?_eq_some_iff.1 he).1
    simp only [pairM_any, atM_some hv, atP_rpt hv]
    have e1 : decide (e.id ≤ lastE (es.take j)) = (decide (e.id < 1) || (decide (0 < j) && decide (e.id ≤ prevE es j))) := by
      by_cases hj : 0 < j
      · rw [lastE_prev hj (by omega)]
        obtain ⟨k, rfl⟩ : ∃ k, j = k + 1 := ⟨j - 1, by omega⟩
        have hk : es[k]? = some es[k] := List.getElem?_eq_getElem (by omega)
        have := (eok_iff hk).1 (List.all_eq_true.1 h k (List.mem_range.2 (by omega)))
        have hp : prevE es (k + 1) = es[k].id := by unfold prevE; rw [show k + 1 - 1 = k from rfl, hk]; rfl
        rw [hp, Bool.eq_iff_iff]
        have := this.pos
        simp only [decide_eq_true_eq, Bool.or_eq_true, Bool.and_eq_true]
        omega
      · obtain rfl : j = 0 := by omega
        rw [Bool.eq_iff_iff]
        have e0 : lastE (es.take 0) = 0 := rfl
        rw [e0]
        simp only [decide_eq_true_eq, Bool.or_eq_true, Bool.and_eq_true]
        omega
    rw [e1]
    cases ha : (vs.find? fun v => v.id == e.a).isSome with
    | false => simp
    | true =>
      cases hb : (vs.find? fun v => v.id == e.b).isSome with
      | false => simp
      | true =>
        by_cases hab : e.a = e.b
        · simp [hab]
        · rw [onWay_R hv (rpt_in hv ha) (rpt_in hv hb), cross_R hv (ends_take h) (rpt_in hv ha) (rpt_in hv hb) (rpt_ne hv hab ha hb)]
          have : (e.a == e.b) = false := by simpa using hab
          rw [this]
          simp only [Bool.or_assoc, Bool.not_true, Bool.false_or]
theorem right_same (vs : List Vt) (es : List Eg) : rightB vs es = rightR vs es := by
  unfold rightB rightR
  rw [all_same vs.length fun j _ h => vOK_same vs j h]
  cases hv : (List.range vs.length).all (vOKr vs) with
  | false => simp
  | true => rw [all_same es.length fun j _ h => eOK_same ((rightV_iff vs).1 hv) es j h]
/-! ### Right plans, by twos -/
structure RightP (vs : List Vt) (es : List Eg) : Prop where
  few : vs.length ≤ 512 ∧ es.length ≤ 1024
  verts : RightV vs
  each : ∀ e ∈ es, 1 ≤ e.id ∧ (e.a ≠ e.b ∧ (vs.find? fun v => v.id == e.a).isSome = true ∧ (vs.find? fun v => v.id == e.b).isSome = true) ∧ onWayR vs (rpt vs e.a) (rpt vs e.b) = false
  two : es.Pairwise fun e f => e.id < f.id ∧ ((e.a == f.a && e.b == f.b) || (e.a == f.b && e.b == f.a)) = false ∧ meetR (rpt vs f.a) (rpt vs f.b) (rpt vs e.a) (rpt vs e.b) = false
theorem any_take {α : Type} {l : List α} {j : Nat} {f : α → Bool} : (l.take j).any f = false ↔ ∀ (i : Nat) (u : α), i < j → l[i]? = some u → f u = false := by
  rw [List.any_eq_false]
  constructor
  · intro h i u hi hu
    have := h u (List.mem_of_getElem? (i := i) (by rw [List.getElem?_take, if_pos hi]; exact hu))
    simpa using this
  · intro h u hu
    obtain ⟨i, hi⟩ := List.getElem?_of_mem hu
    rw [List.getElem?_take] at hi
    split at hi
    · rename_i hij
      simpa using h i u hij hi
    · cases hi
theorem right_iff (vs : List Vt) (es : List Eg) : rightR vs es = true ↔ RightP vs es := by
  unfold rightR
  simp only [Bool.and_eq_true, Bool.not_eq_true', Bool.or_eq_false_iff, decide_eq_false_iff_not, Nat.not_lt, rightV_iff]
  constructor
  · intro ⟨h0, hv, h⟩
    have key : ∀ j e, es[j]? = some e → EOK vs es j e := fun j e he => (eok_iff he).1 (List.all_eq_true.1 h j (List.mem_range.2 (List.getElem?_eq_some_iff.1 he).1))
    refine ⟨h0, hv, fun e he => ?_, ?_⟩
    · obtain ⟨j, hj⟩ := List.getElem?_of_mem he
      have := key j e hj
      exact ⟨this.pos, this.ends, this.free⟩
    · rw [pairwise_get]
      have lt : ∀ (j i : Nat) (u v : Eg), i < j → es[i]? = some u → es[j]? = some v → u.id < v.id := by
        intro j
        induction j with
        | zero => intro i u v h; omega
        | succ j ih =>
          intro i u v hij hu hv
          have hjl : j < es.length := by have := (List.getElem?_eq_some_iff.1 hv).1; omega
          have hk : es[j]? = some es[j] := List.getElem?_eq_getElem hjl
          have hp : prevE es (j + 1) = es[j].id := by unfold prevE; rw [show j + 1 - 1 = j from rfl, hk]; rfl
          have h1 := (key (j + 1) v hv).prev (by omega)
          rw [hp] at h1
          by_cases e : i = j
          · subst e
            rw [hk] at hu; injection hu with hu; rw [← hu]; exact h1
          · have := ih i u _ (by omega) hu hk
            omega
      intro i j u v hij hu hv
      exact ⟨lt j i u v hij hu hv, any_take.1 (key j v hv).new i u hij hu, any_take.1 (key j v hv).apart i u hij hu⟩
  · intro ⟨h0, hv, h1, h2⟩
    rw [pairwise_get] at h2
    refine ⟨h0, hv, ?_⟩
    rw [List.all_eq_true]
    intro j hj
    have hj := List.mem_range.1 hj
    have he : es[j]? = some es[j] := List.getElem?_eq_getElem hj
    rw [eok_iff he]
    have := h1 _ (List.mem_of_getElem? he)
    refine ⟨this.1, fun h0 => ?_, this.2.1, this.2.2, any_take.2 fun i u hij hu => (h2 i j u _ hij hu he).2.1, any_take.2 fun i u hij hu => (h2 i j u _ hij hu he).2.2⟩
    obtain ⟨k, rfl⟩ : ∃ k, j = k + 1 := ⟨j - 1, by omega⟩
    have hk : es[k]? = some es[k] := List.getElem?_eq_getElem (by omega)
    have hp : prevE es (k + 1) = es[k].id := by unfold prevE; rw [show k + 1 - 1 = k from rfl, hk]; rfl
    rw [hp]
    exact (h2 k (k + 1) _ _ (by omega) hk he).1
end Go.Proofs.Ytlhmjhildlnokaa

/-
  The walk of trap.Build: the index of a right plan whose edges come once each, in any order.
-/
namespace Go.Proofs.Ytlhmjhildlnokaa
set_option linter.unusedVariables false
set_option linter.unusedSimpArgs false
open Go.RowKit Go.Sort Go.Shelf

/-- An index, as lists. -/
structure IxS where
  N : List Nd
  P : List Pc
  S : List (Int × Sg)
  E : List (Pt × Bool)
def ix0 : IxS := ⟨[nd0], [pc0], [], []⟩
def PutR (X : IxS) (id : Int) (s : Sg) (Y : IxS) : Prop := ∃ all, CrossP X.P X.S s all ∧ Y.N = (roundsS id s all all.length ⟨X.N, X.P, 0, 0⟩).N ∧ Y.P = (roundsS id s all all.length ⟨X.N, X.P, 0, 0⟩).P ∧ Y.S = (id, s) :: X.S ∧ Y.E = (s.b, true) :: cutA ((s.a, true) :: cutA X.E s.a) s.b
/-- An index into which these lines were put, the last one first. -/
inductive PutsR : List (Int × Sg) → IxS → Prop
  | nil : PutsR [] ix0
  | put {l : List (Int × Sg)} {X Y : IxS} {id : Int} {s : Sg} (h : PutsR l X) (hid : id ∉ l.map (·.1)) (hp : PutR X id s Y) : PutsR ((id, s) :: l) Y
theorem PutsR.S_ {l : List (Int × Sg)} {X : IxS} (h : PutsR l X) : X.S = l := by
  induction h with
  | nil => rfl
  | put h hid hp ih => obtain ⟨_, _, _, _, e, _⟩ := hp; rw [e, ih]
theorem PutsR.ixN {l : List (Int × Sg)} {X : IxS} (h : PutsR l X) : l.length ≤ 40 → IxN l.length X.N X.P := by
  induction h with
  | nil => intro _; exact ixN_0
  | put h hid hp ih =>
    intro hl
    simp only [List.length_cons] at hl ⊢
    obtain ⟨all, h1, h2, h3, _⟩ := hp
    rw [h2, h3]
    exact ixN_put (ih (by omega)) (by omega) h1
abbrev xL (bx ks ke cn cp dn dp : Nat) (X : IxS) (l : List Res) : List Res := xB bx ks ke X.N.length X.P.length cn cp dn dp :: nG dn X.N.length cn X.N :: pG dp X.P.length cp X.P :: mSeg ks X.S :: mEnd ke X.E :: l
theorem put2_any {B : Nat} {w0 w : World} {l : List Res} {bx ks ke cn cp dn dp : Nat} {X : IxS} {L : List (Int × Sg)} (id : Int) (s : Sg) (hL : PutsR L X) (hl : L.length < 40) (hid : id ∉ L.map (·.1)) (H : Own B w0 w (xL bx ks ke cn cp dn dp X l)) :
    Calls Try.prog 62 #[.pointer (some ⟨bx, 0, none⟩), .int .i64 id, sgV s] w fun e w' => e = .returned (.tuple #[]) ∧ ∃ Y dn' dp' cn' cp', PutsR ((id, s) :: L) Y ∧ Own B w0 w' (xL bx ks ke cn' cp' dn' dp' Y l) := by
  have I := hL.ixN (by omega)
  have h1 := I.pl
  have h2 := I.nl
  refine (put_any id s I.wf I.p0 I.n0 (by omega) (by omega) H).mono ?_
  rintro e w' ⟨rfl, all, Y, dn', dp', cn', cp', hc, rfl, H'⟩
  have hcut : cutA X.S id = X.S := cutA_none (by rw [hL.S_]; exact hid)
  rw [hcut] at H'
  exact ⟨rfl, ⟨_, _, (id, s) :: X.S, _⟩, dn', dp', cn', cp', .put hL hid ⟨all, hc, rfl, rfl, rfl, rfl⟩, H'⟩
def segI (vs : List Vt) (es : List Eg) (id : Int) : Sg := match es.find? (fun e => e.id == id) with | some e => segZ vs e.a e.b | none => zSg
def segsOf (vs : List Vt) (es : List Eg) (os : List Int) : List (Int × Sg) := os.map fun id => (id, segI vs es id)
theorem segs_keys (vs : List Vt) (es : List Eg) (os : List Int) : (segsOf vs es os).map (·.1) = os := by
  unfold segsOf; rw [List.map_map]
  exact List.map_id'' (fun _ => rfl) os
/-- The numbers of all edges, each once. -/
def OrdP (es : List Eg) (os : List Int) : Prop := os.length = es.length ∧ (∀ id ∈ os, (es.find? fun e => e.id == id).isSome = true) ∧ os.Nodup
instance (es : List Eg) (os : List Int) : Decidable (OrdP es os) := by unfold OrdP; exact inferInstance
def buildB (vs : List Vt) (es : List Eg) (os : List Int) : Bool := rightB vs es && decide (OrdP es os)
/-- What is known behind j of them. -/
structure BldI (vs : List Vt) (es : List Eg) (os : List Int) (X : IxS) : Prop where
  puts : PutsR (segsOf vs es os).reverse X
  ids : ∀ id ∈ os, (es.find? fun e => e.id == id).isSome = true
  nodup : os.Nodup
theorem bld_get {vs : List Vt} {es : List Eg} {os : List Int} {X : IxS} (I : BldI vs es os X) (id : Int) : (getA X.S id).isSome = decide (id ∈ os) := by
  rw [I.puts.S_]
  have hk : ((segsOf vs es os).reverse.map (·.1)) = os.reverse := by rw [List.map_reverse, segs_keys]
  cases h : getA (segsOf vs es os).reverse id with
  | none =>
    have := getA_none.1 h
    rw [hk, List.mem_reverse] at this
    simp [this]
  | some v =>
    have : ¬ id ∉ (segsOf vs es os).reverse.map (·.1) := fun hn => by rw [getA_none.2 hn] at h; cases h
    rw [hk, List.mem_reverse] at this
    simp only [Option.isSome_some]
    exact (decide_eq_true (by simpa using this)).symm
theorem rightT_P {vs : List Vt} {es : List Eg} (h : rightB vs es = true) : RightP vs es := (right_iff vs es).1 (by rw [← right_same]; exact h)
theorem edge_find {es : List Eg} {id : Int} (h : (es.find? fun e => e.id == id).isSome = true) : ∃ x y, (es.find? fun e => e.id == id) = some ⟨id, x, y⟩ ∧ (⟨id, x, y⟩ : Eg) ∈ es := by
  obtain ⟨⟨i, x, y⟩, he⟩ := Option.isSome_iff_exists.1 h
  have h1 := List.find?_some he
  simp only [beq_iff_eq] at h1
  subst h1
  exact ⟨x, y, he, List.mem_of_find?_eq_some he⟩
theorem bld_step {vs : List Vt} {es : List Eg} {os : List Int} {j : Nat} {X Y : IxS} {id x y : Int} (I : BldI vs es (os.take j) X) (hj : os[j]? = some id) (hf : (es.find? fun e => e.id == id) = some ⟨id, x, y⟩) (hn : id ∉ os.take j) (hY : PutsR ((id, segZ vs x y) :: (segsOf vs es (os.take j)).reverse) Y) : BldI vs es (os.take (j + 1)) Y := by
  have e : os.take (j + 1) = os.take j ++ [id] := by rw [List.take_add_one, hj]; rfl
  rw [e]
  refine ⟨?_, ?_, ?_⟩
  · have : segsOf vs es (os.take j ++ [id]) = segsOf vs es (os.take j) ++ [(id, segZ vs x y)] := by
      unfold segsOf
      rw [List.map_append, List.map_singleton]
      unfold segI
      rw [hf]
    rw [this, List.reverse_append]
    exact hY
  · intro i hi
    rcases List.mem_append.1 hi with hi | hi
    · exact I.ids i hi
    · obtain rfl : i = id := by simpa using hi
      rw [hf]; rfl
  · rw [List.nodup_append]
    refine ⟨I.nodup, by simp, ?_⟩
    intro a ha b hb hab
    obtain rfl : b = id := by simpa using hb
    rw [← hab] at hn
    exact hn ha
theorem bld_no {es : List Eg} {os : List Int} {j : Nat} {id : Int} (hj : os[j]? = some id) (h : (es.find? fun e => e.id == id).isSome = false ∨ id ∈ os.take j) : ¬ OrdP es os := by
  rintro ⟨_, h1, h2⟩
  rcases h with h | h
  · rw [h1 id (List.mem_of_getElem? hj)] at h; cases h
  · obtain ⟨i, hi⟩ := List.getElem?_of_mem h
    have hil : i < j := by
      have := (List.getElem?_eq_some_iff.1 hi).1
      rw [List.length_take] at this; omega
    rw [List.getElem?_take_of_lt hil] at hi
    have := (List.getElem?_inj (i := i) (j := j) (List.getElem?_eq_some_iff.1 hi).1 h2).1 (by rw [hi, hj])
    omega
def oR (os : List Int) : List Value := os.map (Value.int .i64)
theorem oR_get {os : List Int} {j : Nat} {x : Int} (h : os[j]? = some x) : (oR os)[j]? = some (.int .i64 x) := by simp [oR, h]
set_option maxRecDepth 100000 in
set_option maxHeartbeats 16000000 in
theorem build_any (vs : List Vt) (es : List Eg) (os : List Int) (A A2 A3 : Option Addr) (n m q : Nat) (c c2 c3 : Nat) (F : Nat → Prop) (w : World) (hn : n = vs.length) (hm : m = es.length) (hq : q = os.length) (hs : Sl F w A (vR vs)) (hs2 : Sl F w A2 (eR es)) (hs3 : Sl F w A3 (oR os)) (hF : ∀ k, F k → k < w.heap.size) (hl : n ≤ 1000000) (hl2 : m ≤ 40) (hc2 : m ≤ c2) (hcc : c2 ≤ maxLen) :
    Calls Try.prog 37 #[.agg #[.slice A n c, .slice A2 m c2], .slice A3 q c3] w fun e w' =>
      (buildB vs es os = false ∧ e = .returned (.tuple #[.pointer none, .int .i64 1]) ∧ Below w.heap.size w w') ∨
      (buildB vs es os = true ∧ ∃ X bx ks ke cn cp dn dp, e = .returned (.tuple #[.pointer (some ⟨bx, 0, none⟩), .int .i64 0]) ∧ BldI vs es os X ∧ Own w.heap.size w w' (xL bx ks ke cn cp dn dp X [])) := by
  obtain ⟨b0, o0, H1, f0⟩ := (Own.start w).addSl (hs.ro (by rfl))
  obtain ⟨b9, o9, H2, f9⟩ := H1.addSl (hs2.ro (by rfl))
  obtain ⟨b8, o8, H, f8⟩ := H2.addSl (hs3.ro (by rfl))
  clear hs hs2 hs3 H1 H2
  have HN := Lib.hid hn
  have HM := Lib.hid hm
  have HQ := Lib.hid hq
  have h1 := fun F w a b => right_any vs es A A2 n m c c2 F w hn hm a b hl (by omega) hc2 hcc
  have h2 := fun F w a id => edge_any es A2 A m n c2 c F id w hm a (by omega)
  have h3 := fun F w a x y i => segOf_any vs A A2 n m c c2 F i x y w hn a hl
  cases hr : rightB vs es
  · have hbb : buildB vs es os = false := by unfold buildB; rw [hr]; rfl
    rw [hr] at h1
    clear h2 h3 hn hm hq
    go_enter Try.func37, Try.ntmps37
    have tk0 : True := trivial
    go_wp2_with (first
      | (go_at_call 25; (with_reducible refine (h1 _ _ (by exact H.giveRd m3 f0) (by exact H.giveRd m2 f9)).mono ?_); rintro e w3 ⟨rfl, hb⟩; replace H := H.ext hb; clear hb; dsimp only)
      | (guard_target =~ wpList _ _ _ (_ :: _) _ _; (first | (guard_target =~ wpList _ _ _ (Oper.mk _ (.load _ _) _ _ _ _ :: _) _ _; refine BigFrame.wpList_want rfl (fun K hK => ?_); (refine o_loadNC (row := ?_) rfl rfl H ?_ ?_ ?_ (hK _ _ ?_); rotate_left 1; (repeat first | exact .head _ | apply List.Mem.tail); (focus (intro _; simp; done)); (focus (intro _; simp; done))); clear hK K) | ((guard_target =~ wpList _ _ _ (Oper.mk _ (.box _ _) _ _ _ _ :: _) _ _; refine BigFrame.wpList_want rfl (fun K hK => ?_); refine o_box rfl H rfl (fun w3 b2 he H2 => hK _ _ ?_)); clear hK K he; clear H; (try clear w2); revert w3; intro w2 H; simp [Act.eval, Value.cells, setL, List.getD] at H; (clear tk0; rename Nat => b1))); simp only [Act.put, List.setIfInBounds_toArray, List.set_cons_succ, List.set_cons_zero]))
    go_ret2
    exact .inl ⟨hbb, rfl, H.below⟩
  have hends : ∀ i x y, (⟨i, x, y⟩ : Eg) ∈ es → (vs.find? fun v => v.id == x).isSome = true ∧ (vs.find? fun v => v.id == y).isSome = true := fun i x y h => ((rightT_P hr).each _ h).2.1.2
  rw [hr] at h1
  have HE := Lib.hid hends
  have HR := Lib.hid hr
  clear hends hr hn hm hq
  by_cases hql : q = m
  · subst hql
    have hlen : os.length = es.length := by rw [← HQ.out, ← HM.out]
    have HLEN := Lib.hid hlen
    clear hlen
    have hqq : ((q : Int) != (q : Int)) = false := by simp
    go_enter Try.func37, Try.ntmps37
    have tk0 : True := trivial
    go_wp2_with (first
      | (go_at_call 25; (with_reducible refine (h1 _ _ (by exact H.giveRd m3 f0) (by exact H.giveRd m2 f9)).mono ?_); rintro e w3 ⟨rfl, hb⟩; replace H := H.ext hb; clear hb; dsimp only)
      | (go_at_call 61; (with_reducible refine (fresh_any _).mono ?_); rintro e w3 ⟨bx, ks, ke, cn, cp, dn, dp, rfl, H2⟩; replace H := H.join H2 rfl; clear H2; simp only [List.cons_append, List.nil_append] at H; dsimp only)
      | (guard_target =~ wpList _ _ _ (_ :: _) _ _; (first | (guard_target =~ wpList _ _ _ (Oper.mk _ (.load _ _) _ _ _ _ :: _) _ _; refine BigFrame.wpList_want rfl (fun K hK => ?_); (first | (refine o_loadC (v := ?_) (row := ?_) rfl rfl H ?_ ?_ ?_ (hK _ _ ?_); rotate_left 2; (repeat first | exact .head _ | apply List.Mem.tail); (exact rfl); (focus (intro _; simp [hqq]; done))) | (refine o_loadNC (row := ?_) rfl rfl H ?_ ?_ ?_ (hK _ _ ?_); rotate_left 1; (repeat first | exact .head _ | apply List.Mem.tail); (focus (intro _; simp [hqq]; done)); (focus (intro _; simp [hqq]; done)))); clear hK K) | ((guard_target =~ wpList _ _ _ (Oper.mk _ (.box _ _) _ _ _ _ :: _) _ _; refine BigFrame.wpList_want rfl (fun K hK => ?_); refine o_box rfl H rfl (fun w3 b2 he H2 => hK _ _ ?_)); clear hK K he; clear H; (try clear w2); revert w3; intro w2 H; (try simp [Act.eval, List.getD, hqq] at H); (try simp [Value.cells, setL, hqq] at H); (clear tk0; rename Nat => b1))); simp only [Act.put, List.setIfInBounds_toArray, List.set_cons_succ, List.set_cons_zero, hqq]))
    go_loopg [27] q (fun k i wr => k ≤ q ∧ i = .int .i64 ((q - k : Nat) : Int) ∧ ∃ X dn dp cn cp, BldI vs es (os.take (q - k)) X ∧ Own w.heap.size w wr (xL bx ks ke cn cp dn dp X [.cells b1 [.slice A n c, .slice A2 q c2], .rd A3 b8 o8 (oR os), .rd A2 b9 o9 (eR es), .rd A b0 o0 (vR vs)]))
    case atStart =>
      refine ⟨Nat.le_refl _, by simp, ix0, dn, dp, cn, cp, ?_, H⟩
      rw [Nat.sub_self, List.take_zero]
      exact ⟨.nil, by simp, .nil⟩
    case round =>
      clear H
      obtain ⟨hk, rfl, X, dn, dp, cn, cp, hI, H⟩ := hrel
      have HI := Lib.hid hI
      by_cases hlt : 0 < gk
      · obtain ⟨j, hj⟩ : ∃ j, q - gk = j := ⟨_, rfl⟩
        have hjl : j < q := by omega
        obtain ⟨id, he⟩ : ∃ x, os[j]? = some x := ⟨_, List.getElem?_eq_getElem (by have := HQ.out; omega)⟩
        have he2 := oR_get he
        have hgs := bld_get hI id
        rw [hj] at hgs ⊢
        obtain rfl := H.rdAddr m6 (Nat.lt_of_le_of_lt (Nat.zero_le _) (List.getElem?_eq_some_iff.1 he2).1)
        have hp := at_rd (A := some ⟨b8, o8, none⟩) (b := b8) (off := o8) he2
        have h4 := fun F w a => h2 F w a id
        obtain ⟨o, ho⟩ : ∃ o, (es.find? fun e => e.id == id) = o := ⟨_, rfl⟩
        rw [ho] at h4
        have HOS := Lib.hid he
        have HJ := Lib.hid hj
        clear hI he he2 hj
        cases o with
        | none =>
          have hno := bld_no HOS.out (.inl (by rw [ho]; rfl))
          have hbb : buildB vs es os = false := by unfold buildB; rw [decide_eq_false hno, Bool.and_false]
          clear ho hgs hno
          simp only [egV, Option.isSome_none] at h4
          have tk0 : True := trivial
          have tk1 : True := trivial
          go_wp2_with (first
            | (go_at_call 59; (with_reducible refine (h4 _ _ (by exact H.giveRd m7 f9)).mono ?_); rintro e w3 ⟨rfl, hb⟩; replace H := H.ext hb; clear hb; dsimp only)
            | (guard_target =~ wpList _ _ _ (_ :: _) _ _; (first | (guard_target =~ wpList _ _ _ (Oper.mk _ (.load _ _) _ _ _ _ :: _) _ _; refine BigFrame.wpList_want rfl (fun K hK => ?_); (first | (refine o_load (v := ?_) (r := ?_) rfl rfl H ?_ ?_ ?_ (hK _ _ ?_); rotate_left 2; (with_reducible assumption); (repeat first | exact .head _ | apply List.Mem.tail); (focus (intro _; simp; done))) | (refine o_loadC (v := ?_) (row := ?_) rfl rfl H ?_ ?_ ?_ (hK _ _ ?_); rotate_left 2; (repeat first | exact .head _ | apply List.Mem.tail); (exact rfl); (focus (intro _; simp; done))) | (refine o_loadNC (row := ?_) rfl rfl H ?_ ?_ ?_ (hK _ _ ?_); rotate_left 1; (repeat first | exact .head _ | apply List.Mem.tail); (focus (intro _; simp; done)); (focus (intro _; simp; done)))); clear hK K) | (guard_target =~ wpList _ _ _ (Oper.mk _ (.store _ _ _) _ _ _ _ :: _) _ _; refine BigFrame.wpList_want rfl (fun K hK => ?_); refine o_store (l' := ?_) (row := ?_) rfl rfl H rfl ?_ ?_ ?_ ?_ (fun w3 H2 => hK _ _ ?_); rotate_left 2; (exact r0); (focus (intro _; simp [Act.eval, Value.cells]; done)); (focus (simp [Act.eval, Value.cells]; done)); (exact rfl); clear hK K; clear H; (try clear w2); revert w3; intro w2 H; simp [Act.eval, Value.cells, setL, List.getD] at H) | ((guard_target =~ wpList _ _ _ (Oper.mk _ (.alloc _) _ _ _ _ :: _) _ _; refine BigFrame.wpList_want rfl (fun K hK => ?_); refine o_alloc (z := ?_) rfl ?_ H rfl (fun w3 b2 he H2 => hK _ _ ?_); rotate_left 1; (focus (intro _; simp; with_reducible exact rfl))); clear hK K he; clear H; (try clear w2); revert w3; intro w2 H; simp [Act.eval, Value.cells, setL, List.getD] at H; (first | (clear tk0; rename Nat => b2) | (clear tk1; rename Nat => b3))) | (guard_target =~ wpList _ _ _ (Oper.mk _ (.lookup _ _ _ true) _ _ _ _ :: _) _ _; refine BigFrame.wpList_want rfl (fun K hK => ?_); refine o_segOk (m := ?_) rfl rfl rfl H ?_ (hK _ _ ?_); rotate_left 1; (repeat first | exact .head _ | apply List.Mem.tail); clear hK K)); simp only [Act.put, List.setIfInBounds_toArray, List.set_cons_succ, List.set_cons_zero]))
          go_ret2
          exact .inl ⟨hbb, rfl, H.below⟩
        | some e =>
          obtain ⟨x, y, ho2, hmem⟩ := edge_find (es := es) (id := id) (by rw [ho]; rfl)
          obtain rfl : e = ⟨id, x, y⟩ := by rw [ho] at ho2; injection ho2
          have h5 := fun F w a => h3 F w a x y id (HE.out id x y hmem).1 (HE.out id x y hmem).2
          simp only [egV, Option.isSome_some] at h4
          by_cases ht : id ∈ os.take j
          · have hno := bld_no (es := es) HOS.out (.inr ht)
            have hbb : buildB vs es os = false := by unfold buildB; rw [decide_eq_false hno, Bool.and_false]
            rw [decide_eq_true ht] at hgs
            obtain ⟨s0, hs0⟩ := Option.isSome_iff_exists.1 hgs
            clear ho ho2 hgs hno ht h5 hmem
            have tk0 : True := trivial
            have tk1 : True := trivial
            go_wp2_with (first
              | (go_at_call 59; (with_reducible refine (h4 _ _ (by exact H.giveRd m7 f9)).mono ?_); rintro e w3 ⟨rfl, hb⟩; replace H := H.ext hb; clear hb; dsimp only)
              | (guard_target =~ wpList _ _ _ (_ :: _) _ _; (first | (guard_target =~ wpList _ _ _ (Oper.mk _ (.load _ _) _ _ _ _ :: _) _ _; refine BigFrame.wpList_want rfl (fun K hK => ?_); (first | (refine o_load (v := ?_) (r := ?_) rfl rfl H ?_ ?_ ?_ (hK _ _ ?_); rotate_left 2; (with_reducible assumption); (repeat first | exact .head _ | apply List.Mem.tail); (focus (intro _; simp [hs0]; done))) | (refine o_loadC (v := ?_) (row := ?_) rfl rfl H ?_ ?_ ?_ (hK _ _ ?_); rotate_left 2; (repeat first | exact .head _ | apply List.Mem.tail); (exact rfl); (focus (intro _; simp [hs0]; done))) | (refine o_loadNC (row := ?_) rfl rfl H ?_ ?_ ?_ (hK _ _ ?_); rotate_left 1; (repeat first | exact .head _ | apply List.Mem.tail); (focus (intro _; simp [hs0]; done)); (focus (intro _; simp [hs0]; done)))); clear hK K) | (guard_target =~ wpList _ _ _ (Oper.mk _ (.store _ _ _) _ _ _ _ :: _) _ _; refine BigFrame.wpList_want rfl (fun K hK => ?_); refine o_store (l' := ?_) (row := ?_) rfl rfl H rfl ?_ ?_ ?_ ?_ (fun w3 H2 => hK _ _ ?_); rotate_left 2; (exact r0); (focus (intro _; (simp [Act.eval, Value.cells, List.getD, hs0]; done))); (focus (simp [Act.eval, Value.cells, List.getD, hs0]; done)); (exact rfl); clear hK K; clear H; (try clear w2); revert w3; intro w2 H; (try simp [Act.eval, List.getD, hs0] at H); (try simp [Value.cells, setL, hs0] at H)) | ((guard_target =~ wpList _ _ _ (Oper.mk _ (.alloc _) _ _ _ _ :: _) _ _; refine BigFrame.wpList_want rfl (fun K hK => ?_); refine o_alloc (z := ?_) rfl ?_ H rfl (fun w3 b2 he H2 => hK _ _ ?_); rotate_left 1; (focus (intro _; simp; with_reducible exact rfl))); clear hK K he; clear H; (try clear w2); revert w3; intro w2 H; (try simp [Act.eval, List.getD, hs0] at H); (try simp [Value.cells, setL, hs0] at H); (first | (clear tk0; rename Nat => b2) | (clear tk1; rename Nat => b3))) | (guard_target =~ wpList _ _ _ (Oper.mk _ (.lookup _ _ _ true) _ _ _ _ :: _) _ _; refine BigFrame.wpList_want rfl (fun K hK => ?_); refine o_segOk (m := ?_) rfl rfl rfl H ?_ (hK _ _ ?_); rotate_left 1; (repeat first | exact .head _ | apply List.Mem.tail); clear hK K)); simp only [Act.put, List.setIfInBounds_toArray, List.set_cons_succ, List.set_cons_zero, hs0]))
            go_ret2
            exact .inl ⟨hbb, rfl, H.below⟩
          · rw [decide_eq_false ht] at hgs
            have hs0 : getA X.S id = none := by
              cases e : getA X.S id
              · rfl
              · rw [e] at hgs; cases hgs
            have hl40 : ((segsOf vs es (os.take j)).reverse).length < 40 := by
              rw [List.length_reverse]; unfold segsOf; rw [List.length_map, List.length_take]
              have := HQ.out; omega
            have hkey : id ∉ ((segsOf vs es (os.take j)).reverse).map (·.1) := by rw [List.map_reverse, segs_keys, List.mem_reverse]; exact ht
            have hJJ := HJ.out
            rw [hJJ] at HI
            have hput := fun {l : List Res} w4 H => put2_any (B := w.heap.size) (w0 := w) (w := w4) (l := l) (bx := bx) (ks := ks) (ke := ke) (cn := cn) (cp := cp) (dn := dn) (dp := dp) id (segZ vs x y) HI.out.puts hl40 hkey H
            have HT := Lib.hid ht
            have HO2 := Lib.hid ho2
            clear ho ho2 hgs ht hmem hl40 hkey hJJ
            have tk0 : True := trivial
            have tk1 : True := trivial
            go_wp2_with (first
              | (go_at_call 59; (with_reducible refine (h4 _ _ (by exact H.giveRd m7 f9)).mono ?_); rintro e w3 ⟨rfl, hb⟩; replace H := H.ext hb; clear hb; dsimp only)
              | (go_at_call 63; (with_reducible refine (h5 _ _ (by exact H.giveRd m10 f0)).mono ?_); rintro e w3 ⟨rfl, hb⟩; replace H := H.ext hb; clear hb; dsimp only)
              | (go_at_call 62; (replace H:Own _ _ _ (mEnd _ _ :: _) := H.front6); (replace H:Own _ _ _ (mSeg _ _ :: _) := H.front6); (replace H:Own _ _ _ (Res.grow 121 _ _ _ _ :: _) := H.front6); (replace H:Own _ _ _ (Res.grow 127 _ _ _ _ :: _) := H.front6); (replace H:Own _ _ _ (Res.cells bx _ :: _) := H.front6); (with_reducible refine (hput _ H).mono ?_); rintro e w3 ⟨rfl, Y, dn2, dp2, cn2, cp2, hY, H2⟩; replace H := H2; clear H2; have HY := Lib.hid hY; clear hY; dsimp only)
              | (guard_target =~ wpList _ _ _ (_ :: _) _ _; (first | (guard_target =~ wpList _ _ _ (Oper.mk _ (.load _ _) _ _ _ _ :: _) _ _; refine BigFrame.wpList_want rfl (fun K hK => ?_); (first | (refine o_load (v := ?_) (r := ?_) rfl rfl H ?_ ?_ ?_ (hK _ _ ?_); rotate_left 2; (with_reducible assumption); (repeat first | exact .head _ | apply List.Mem.tail); (focus (intro _; simp [hs0]; done))) | (refine o_loadC (v := ?_) (row := ?_) rfl rfl H ?_ ?_ ?_ (hK _ _ ?_); rotate_left 2; (repeat first | exact .head _ | apply List.Mem.tail); (exact rfl); (focus (intro _; simp [hs0]; done))) | (refine o_loadNC (row := ?_) rfl rfl H ?_ ?_ ?_ (hK _ _ ?_); rotate_left 1; (repeat first | exact .head _ | apply List.Mem.tail); (focus (intro _; simp [hs0]; done)); (focus (intro _; simp [hs0]; done)))); clear hK K) | (guard_target =~ wpList _ _ _ (Oper.mk _ (.store _ _ _) _ _ _ _ :: _) _ _; refine BigFrame.wpList_want rfl (fun K hK => ?_); refine o_store (l' := ?_) (row := ?_) rfl rfl H rfl ?_ ?_ ?_ ?_ (fun w3 H2 => hK _ _ ?_); rotate_left 2; (exact r0); (focus (intro _; (simp [Act.eval, Value.cells, List.getD, hs0]; done))); (focus (simp [Act.eval, Value.cells, List.getD, hs0]; done)); (exact rfl); clear hK K; clear H; (try clear w2); revert w3; intro w2 H; (try simp [Act.eval, List.getD, hs0] at H); (try simp [Value.cells, setL, hs0] at H)) | ((guard_target =~ wpList _ _ _ (Oper.mk _ (.alloc _) _ _ _ _ :: _) _ _; refine BigFrame.wpList_want rfl (fun K hK => ?_); refine o_alloc (z := ?_) rfl ?_ H rfl (fun w3 b2 he H2 => hK _ _ ?_); rotate_left 1; (focus (intro _; simp; with_reducible exact rfl))); clear hK K he; clear H; (try clear w2); revert w3; intro w2 H; (try simp [Act.eval, List.getD, hs0] at H); (try simp [Value.cells, setL, hs0] at H); (first | (clear tk0; rename Nat => b2) | (clear tk1; rename Nat => b3))) | (guard_target =~ wpList _ _ _ (Oper.mk _ (.lookup _ _ _ true) _ _ _ _ :: _) _ _; refine BigFrame.wpList_want rfl (fun K hK => ?_); refine o_segOk (m := ?_) rfl rfl rfl H ?_ (hK _ _ ?_); rotate_left 1; (repeat first | exact .head _ | apply List.Mem.tail); clear hK K)); simp only [Act.put, List.setIfInBounds_toArray, List.set_cons_succ, List.set_cons_zero, hs0]))
            go_roundg (gk - 1)
            case rel =>
              refine ⟨by omega, by have := HJ.out; congr 1; omega, Y, dn2, dp2, cn2, cp2, ?_, (H.sub (by repeat first | exact List.Sublist.refl _ | apply List.Sublist.cons_cons | apply List.Sublist.cons))⟩
              rw [show q - (gk - 1) = j + 1 by have := HJ.out; omega]
              exact bld_step HI.out HOS.out HO2.out HT.out HY.out
            case measure => omega
      · obtain rfl : gk = 0 := by omega
        rw [Nat.sub_zero, List.take_of_length_le (by have := HQ.out; omega)] at hI
        have hbb : buildB vs es os = true := by unfold buildB; rw [HR.out, decide_eq_true ⟨HLEN.out, hI.ids, hI.nodup⟩]; rfl
        have HI2 := Lib.hid hI
        clear hI HI
        go_wp2_with (first | fail)
        go_ret2
        exact .inr ⟨hbb, X, bx, ks, ke, cn, cp, dn, dp, rfl, HI2.out, (H.sub (by repeat first | exact List.Sublist.refl _ | apply List.Sublist.cons_cons | apply List.Sublist.cons))⟩
  · have hno : ¬ OrdP es os := fun h => hql (by rw [HQ.out, HM.out]; exact h.1)
    have hbb : buildB vs es os = false := by unfold buildB; rw [decide_eq_false hno, Bool.and_false]
    have hqq : ((q : Int) != (m : Int)) = true := by simp; omega
    clear hno
    go_enter Try.func37, Try.ntmps37
    have tk0 : True := trivial
    go_wp2_with (first
      | (go_at_call 25; (with_reducible refine (h1 _ _ (by exact H.giveRd m3 f0) (by exact H.giveRd m2 f9)).mono ?_); rintro e w3 ⟨rfl, hb⟩; replace H := H.ext hb; clear hb; dsimp only)
      | (guard_target =~ wpList _ _ _ (_ :: _) _ _; (first | (guard_target =~ wpList _ _ _ (Oper.mk _ (.load _ _) _ _ _ _ :: _) _ _; refine BigFrame.wpList_want rfl (fun K hK => ?_); (first | (refine o_loadC (v := ?_) (row := ?_) rfl rfl H ?_ ?_ ?_ (hK _ _ ?_); rotate_left 2; (repeat first | exact .head _ | apply List.Mem.tail); (exact rfl); (focus (intro _; simp [hqq]; done))) | (refine o_loadNC (row := ?_) rfl rfl H ?_ ?_ ?_ (hK _ _ ?_); rotate_left 1; (repeat first | exact .head _ | apply List.Mem.tail); (focus (intro _; simp [hqq]; done)); (focus (intro _; simp [hqq]; done)))); clear hK K) | ((guard_target =~ wpList _ _ _ (Oper.mk _ (.box _ _) _ _ _ _ :: _) _ _; refine BigFrame.wpList_want rfl (fun K hK => ?_); refine o_box rfl H rfl (fun w3 b2 he H2 => hK _ _ ?_)); clear hK K he; clear H; (try clear w2); revert w3; intro w2 H; (try simp [Act.eval, List.getD, hqq] at H); (try simp [Value.cells, setL, hqq] at H); (clear tk0; rename Nat => b1))); simp only [Act.put, List.setIfInBounds_toArray, List.set_cons_succ, List.set_cons_zero, hqq]))
    go_ret2
    exact .inl ⟨hbb, rfl, H.below⟩
end Go.Proofs.Ytlhmjhildlnokaa

/-
  Questions as the program asks them.
-/
namespace Go.Proofs.Ytlhmjhildlnokaa
set_option linter.unusedVariables false
set_option linter.unusedSimpArgs false
open Go.RowKit Go.Sort Go.Shelf
variable {S : List (Int × Sg)} {N : List Nd}
inductive Ans where
  | on (id : Int)
  | leaf (n : Nat)
/-! ### Questions as the program asks them -/
inductive DescZ (N : List Nd) (S : List (Int × Sg)) (q : Pt) : Nat → Nat → Ans → Prop
  | leaf {n : Nat} {d : Nd} (h : N[n]? = some d) (hk : d.k = 0) : DescZ N S q 0 n (.leaf n)
  | ptL {n m k : Nat} {d : Nd} {r : Ans} (h : N[n]? = some d) (hk : d.k = 1) (hx : lessB q d.p = true) (hm : d.a = (m : Int)) (hd : DescZ N S q k m r) : DescZ N S q (k + 1) n r
  | ptR {n m k : Nat} {d : Nd} {r : Ans} (h : N[n]? = some d) (hk : d.k = 1) (hx : lessB q d.p = false) (hm : d.b = (m : Int)) (hd : DescZ N S q k m r) : DescZ N S q (k + 1) n r
  | lnU {n m k : Nat} {d : Nd} {r : Ans} (h : N[n]? = some d) (hk : d.k = 2) (hy : turnB (sgOf S d.id).a (sgOf S d.id).b q = 1) (hm : d.a = (m : Int)) (hd : DescZ N S q k m r) : DescZ N S q (k + 1) n r
  | lnD {n m k : Nat} {d : Nd} {r : Ans} (h : N[n]? = some d) (hk : d.k = 2) (hy : turnB (sgOf S d.id).a (sgOf S d.id).b q = -1) (hm : d.b = (m : Int)) (hd : DescZ N S q k m r) : DescZ N S q (k + 1) n r
  | on {n : Nat} {d : Nd} (h : N[n]? = some d) (hk : d.k = 2) (hy : turnB (sgOf S d.id).a (sgOf S d.id).b q = 0) : DescZ N S q 0 n (.on d.id)
theorem DescZ.node {q : Pt} {k n : Nat} {r : Ans} (h : DescZ N S q k n r) : ∃ d, N[n]? = some d := by cases h <;> exact ⟨_, by assumption⟩
/-- One answer. -/
theorem DescZ.one {q : Pt} {k n : Nat} {r : Ans} (h : DescZ N S q k n r) : ∀ {k' r'}, DescZ N S q k' n r' → r = r' := by
  induction h with
  | leaf h hk =>
    intro k' r' g
    cases g with
    | leaf h' hk' => rfl
    | ptL h' hk' => rw [h] at h'; injection h' with h'; subst h'; omega
    | ptR h' hk' => rw [h] at h'; injection h' with h'; subst h'; omega
    | lnU h' hk' => rw [h] at h'; injection h' with h'; subst h'; omega
    | lnD h' hk' => rw [h] at h'; injection h' with h'; subst h'; omega
    | on h' hk' => rw [h] at h'; injection h' with h'; subst h'; omega
  | ptL h hk hx hm _ ih =>
    intro k' r' g
    cases g with
    | leaf h' hk' => rw [h] at h'; injection h' with h'; subst h'; omega
    | ptL h' hk' hx' hm' g => rw [h] at h'; injection h' with h'; subst h'; rw [hm] at hm'; rw [Int.ofNat.inj hm'] at ih; exact ih g
    | ptR h' hk' hx' => rw [h] at h'; injection h' with h'; subst h'; rw [hx] at hx'; cases hx'
    | lnU h' hk' => rw [h] at h'; injection h' with h'; subst h'; omega
    | lnD h' hk' => rw [h] at h'; injection h' with h'; subst h'; omega
    | on h' hk' => rw [h] at h'; injection h' with h'; subst h'; omega
  | ptR h hk hx hm _ ih =>
    intro k' r' g
    cases g with
    | leaf h' hk' => rw [h] at h'; injection h' with h'; subst h'; omega
    | ptR h' hk' hx' hm' g => rw [h] at h'; injection h' with h'; subst h'; rw [hm] at hm'; rw [Int.ofNat.inj hm'] at ih; exact ih g
    | ptL h' hk' hx' => rw [h] at h'; injection h' with h'; subst h'; rw [hx] at hx'; cases hx'
    | lnU h' hk' => rw [h] at h'; injection h' with h'; subst h'; omega
    | lnD h' hk' => rw [h] at h'; injection h' with h'; subst h'; omega
    | on h' hk' => rw [h] at h'; injection h' with h'; subst h'; omega
  | lnU h hk hx hm _ ih =>
    intro k' r' g
    cases g with
    | leaf h' hk' => rw [h] at h'; injection h' with h'; subst h'; omega
    | ptL h' hk' => rw [h] at h'; injection h' with h'; subst h'; omega
    | ptR h' hk' => rw [h] at h'; injection h' with h'; subst h'; omega
    | lnU h' hk' hx' hm' g => rw [h] at h'; injection h' with h'; subst h'; rw [hm] at hm'; rw [Int.ofNat.inj hm'] at ih; exact ih g
    | lnD h' hk' hx' => rw [h] at h'; injection h' with h'; subst h'; rw [hx] at hx'; cases hx'
    | on h' hk' hx' => rw [h] at h'; injection h' with h'; subst h'; rw [hx] at hx'; cases hx'
  | lnD h hk hx hm _ ih =>
    intro k' r' g
    cases g with
    | leaf h' hk' => rw [h] at h'; injection h' with h'; subst h'; omega
    | ptL h' hk' => rw [h] at h'; injection h' with h'; subst h'; omega
    | ptR h' hk' => rw [h] at h'; injection h' with h'; subst h'; omega
    | lnD h' hk' hx' hm' g => rw [h] at h'; injection h' with h'; subst h'; rw [hm] at hm'; rw [Int.ofNat.inj hm'] at ih; exact ih g
    | lnU h' hk' hx' => rw [h] at h'; injection h' with h'; subst h'; rw [hx] at hx'; cases hx'
    | on h' hk' hx' => rw [h] at h'; injection h' with h'; subst h'; rw [hx] at hx'; cases hx'
  | on h hk hx =>
    intro k' r' g
    cases g with
    | leaf h' hk' => rw [h] at h'; injection h' with h'; subst h'; omega
    | ptL h' hk' => rw [h] at h'; injection h' with h'; subst h'; omega
    | ptR h' hk' => rw [h] at h'; injection h' with h'; subst h'; omega
    | lnU h' hk' hx' => rw [h] at h'; injection h' with h'; subst h'; rw [hx] at hx'; cases hx'
    | lnD h' hk' hx' => rw [h] at h'; injection h' with h'; subst h'; rw [hx] at hx'; cases hx'
    | on h' hk' hx' => rw [h] at h'; injection h' with h'; subst h'; rfl
end Go.Proofs.Ytlhmjhildlnokaa

/-
  Structs held against each other, field by field; a law of this claim's own. Nothing of the program stands here.
-/
namespace Go.Proofs.Ytlhmjhildlnokaa
set_option linter.unusedVariables false
variable {P : Program}
/-- A field: type, place, both values, whether they are the same. -/
structure FldEq where
  ty : TypeId
  off : Nat
  x : Value
  y : Value
  b : Bool
structure FldEq.ok (P : Program) (d : Nat) (xs ys : Array Value) (f : FldEq) : Prop where
  px : ∀ w, (part f.ty xs f.off).run P w = .ok f.x w
  py : ∀ w, (part f.ty ys f.off).run P w = .ok f.y w
  eq : ∀ w, (Op.equalIn d f.ty f.x f.y).run P w = .ok f.b w
theorem run_eqFields (d : Nat) (xs ys : Array Value) : ∀ (fs : List Field) (l : List FldEq), fs.map (fun f => (f.name == "_", f.type, f.offset)) = l.map (fun f => (false, f.ty, f.off)) → (∀ f ∈ l, f.ok P d xs ys) →
    ∀ w, (Op.eqFields d xs ys fs).run P w = .ok (l.all (·.b)) w
  | [], [], _, _, w => by simp [Op.eqFields]
  | [], _ :: _, h, _, _ => by simp at h
  | _ :: _, [], h, _, _ => by simp at h
  | f :: fs, g :: l, h, hl, w => by
    simp only [List.map_cons, List.cons.injEq, Prod.mk.injEq] at h
    obtain ⟨⟨h1, h2, h3⟩, h⟩ := h
    have hg := hl g (by simp)
    have ih := run_eqFields d xs ys fs l h (fun f hf => hl f (List.mem_cons_of_mem _ hf)) w
    have hn : f.name ≠ "_" := by simpa using h1
    unfold Op.eqFields
    rw [if_pos hn]
    simp only [Sem.run_bind, h2, h3, hg.px, hg.py, hg.eq, Result.andThen_ok, List.all_cons]
    cases hb : g.b with
    | false => simp
    | true => simp [ih]
theorem eqS_in {d : Nat} {T : TypeId} {xs ys : Array Value} (l : List FldEq) (hu : P.underlying T = some (.struct (P.fieldsOf T))) (hh : P.stoodInHeld T = false)
    (hf : (P.fieldsOf T).toList.map (fun f => (f.name == "_", f.type, f.offset)) = l.map (fun f => (false, f.ty, f.off))) (hl : ∀ f ∈ l, f.ok P d xs ys) (w : World) :
    (Op.equalIn (d + 1) T (.agg xs) (.agg ys)).run P w = .ok (l.all (·.b)) w := by
  rw [run_equalIn_struct w d _ _ _ hu hh]
  exact run_eqFields d xs ys _ l hf hl w
theorem part_cell {T : TypeId} {cs : Array Value} {i : Nat} {v : Value} (ha : ∀ w, (isAgg T).run P w = .ok false w) (h : cs[i]? = some v) (w : World) : (part T cs i).run P w = .ok v w := by
  unfold part
  simp [go_sem, ha, h]
theorem part_row {T : TypeId} {cs : Array Value} {i n : Nat} {xs : Array Value} (ha : ∀ w, (isAgg T).run P w = .ok true w) (hs : ∀ w, (sizeOf T).run P w = .ok n w) (h : cs.extract i (i + n) = xs) (w : World) : (part T cs i).run P w = .ok (.agg xs) w := by
  unfold part
  simp [ha, hs, h]
theorem eqS_eql {T : TypeId} {xs ys : Array Value} {v : Bool} (h : ∀ w, (Op.equalIn 10000 T (.agg xs) (.agg ys)).run P w = .ok v w) (w : World) : (binOp .eql T (.agg xs) (.agg ys)).run P w = .ok (.bool v) w := by
  simp only [binOp]
  simp [Op.equal, Op.maxDepth, h w]
theorem eqS_neq {T : TypeId} {xs ys : Array Value} {v : Bool} (h : ∀ w, (Op.equalIn 10000 T (.agg xs) (.agg ys)).run P w = .ok v w) (w : World) : (binOp .neq T (.agg xs) (.agg ys)).run P w = .ok (.bool (!v)) w := by
  simp only [binOp]
  simp [Op.equal, Op.maxDepth, h w]
end Go.Proofs.Ytlhmjhildlnokaa

/-
  The walk of the index's Find.
-/
namespace Go.Proofs.Ytlhmjhildlnokaa
set_option linter.unusedVariables false
set_option linter.unusedSimpArgs false
open Go.RowKit Go.Sort Go.Shelf

abbrev spV (a b : Int) : Value := .agg #[.int .i64 a, .int .i64 b]
theorem n_grow {N : List Nd} {j n b c : Nat} {q : Nd} (h : N[j]? = some q) : (Res.grow 127 6 (.slice (some ⟨b, 0, none⟩) n c) n (nR N)).at b (j * 6) (nd6 q) := at_grow (flatN_at (f := nd6) (k := 6) (fun _ => rfl) N j _ h)
theorem p_bot {P : List Pc} {j n b c : Nat} {p : Pc} (h : P[j]? = some p) : (Res.grow 121 10 (.slice (some ⟨b, 0, none⟩) n c) n (pR P)).at b (j * 10 + 1) [.int .i64 p.t.bot] := at_grow (by
  have := flatN_sub (f := pc10) (k := 10) (fun _ => rfl) h 1 1 (by omega)
  exact this)
section
variable {Pg : Program} {o : Oper} {a : Act} {w w0 : World} {B : Nat} {l : List Res} {Q : Exit → Act → World → Prop} {ty : TypeId} {x : Operand} {b : Nat} {t0 t1 t2 t3 t4 t5 : Value}
/-- The load of a point out of a node. -/
theorem q_loadNp {lf : List Res} {K : Act → Prop} (ho : o.op = .load ty x) (hx : a.eval x = .pointer (some ⟨b, 2, none⟩)) (hm : Res.cells b [t0, t1, t2, t3, t4, t5] ∈ lf)
    (ha : ∀ w, (isAgg ty).run Pg w = .ok true w) (hs : ∀ w, (sizeOf ty).run Pg w = .ok 2 w) (hk : K (a.put o.dst (.agg #[t2, t3]))) : o.quiet Pg a (Keeps B w0 lf) K := q_loadN (r := .cells b [t0, t1, t2, t3, t4, t5]) (cs := [t2, t3]) ho hx ⟨rfl, rfl⟩ hm ha hs hk
theorem o_loadNp {K : Act → World → Prop} (ho : o.op = .load ty x) (hx : a.eval x = .pointer (some ⟨b, 2, none⟩)) (H : Own B w0 w l) (hm : Res.cells b [t0, t1, t2, t3, t4, t5] ∈ l)
    (ha : ∀ w, (isAgg ty).run Pg w = .ok true w) (hs : ∀ w, (sizeOf ty).run Pg w = .ok 2 w) (hk : K (a.put o.dst (.agg #[t2, t3])) w) : o.wp Pg a w K Q := o_loadN (r := .cells b [t0, t1, t2, t3, t4, t5]) (cs := [t2, t3]) ho hx H ⟨rfl, rfl⟩ hm ha hs hk
end
set_option maxRecDepth 100000 in
set_option maxHeartbeats 8000000 in
theorem findN_any (x y : Int) (w : World) : Calls Try.prog 41 #[.pointer none, pV x y] w fun e w' => e = .returned (.tuple #[spV 0 0, .int .i64 1]) ∧ Below w.heap.size w w' := by
  have H := Own.start w
  go_enter Try.func41, Try.ntmps41
  have tk0 : True := trivial
  have tk1 : True := trivial
  go_wp2_with (first
    | (guard_target =~ Code.wp _ (Code.scope _) _ _ _; go_step3)
    | (guard_target =~ wpList _ _ _ (_ :: _) _ _; (first | (guard_target =~ wpList _ _ _ (Oper.mk _ (.store _ _ _) _ _ _ _ :: _) _ _; refine BigFrame.wpList_want rfl (fun K hK => ?_); refine o_store (l' := ?_) (row := ?_) rfl rfl H rfl ?_ ?_ ?_ ?_ (fun w3 H2 => hK _ _ ?_); rotate_left 2; (exact r0); (focus (intro _; simp [Act.eval, Value.cells]; done)); (focus (simp [Act.eval, Value.cells]; done)); (exact rfl); clear hK K; clear H; (try clear w2); revert w3; intro w2 H; simp [Act.eval, Value.cells, setL, List.getD] at H) | ((first | (guard_target =~ wpList _ _ _ (Oper.mk _ (.alloc _) _ _ _ _ :: _) _ _; refine BigFrame.wpList_want rfl (fun K hK => ?_); refine o_alloc (z := ?_) rfl ?_ H rfl (fun w3 b2 he H2 => hK _ _ ?_); rotate_left 1; (focus (intro _; simp; with_reducible exact rfl))) | (guard_target =~ wpList _ _ _ (Oper.mk _ (.box _ _) _ _ _ _ :: _) _ _; refine BigFrame.wpList_want rfl (fun K hK => ?_); refine o_box rfl H rfl (fun w3 b2 he H2 => hK _ _ ?_))); clear hK K he; clear H; (try clear w2); revert w3; intro w2 H; simp [Act.eval, Value.cells, setL, List.getD] at H; (first | (clear tk0; rename Nat => b1) | (clear tk1; rename Nat => b2)))); simp only [Act.put, List.setIfInBounds_toArray, List.set_cons_succ, List.set_cons_zero]))
  have hr := H.loadVarN (P := Try.prog) (ty := 69) (b := b2) (by exact m0) (by simp) (by simp)
  (try rw [Exit.noGoto_ret])
  exact bodyPost_ret (v := .tuple #[spV 0 0, .int .i64 1]) (by simp [results, Try.results41, asAddr, hr]) rfl ⟨rfl, H.below⟩
set_option maxRecDepth 100000 in
set_option maxHeartbeats 8000000 in
theorem findR_any {B : Nat} {w0 w : World} {l : List Res} {bx : Nat} {x y : Int} (hin : inB ⟨x, y⟩ = false) (H : Own B w0 w l) : Calls Try.prog 41 #[.pointer (some ⟨bx, 0, none⟩), pV x y] w fun e w' => e = .returned (.tuple #[spV 0 0, .int .i64 5]) ∧ Own B w0 w' l := by
  have h1 := fun w => geomIn_any x y w
  rw [hin] at h1
  clear hin
  go_enter Try.func41, Try.ntmps41
  have tk0 : True := trivial
  have tk1 : True := trivial
  go_wp2_with (first
    | (guard_target =~ Code.wp _ (Code.scope _) _ _ _; go_step3)
    | (go_at_call 55; (with_reducible refine (h1 _).mono ?_); rintro e w3 ⟨rfl, hb⟩; replace H := H.ext hb; clear hb; dsimp only)
    | (guard_target =~ wpList _ _ _ (_ :: _) _ _; (first | (guard_target =~ wpList _ _ _ (Oper.mk _ (.load _ _) _ _ _ _ :: _) _ _; refine BigFrame.wpList_want rfl (fun K hK => ?_); (refine o_loadNC (row := ?_) rfl rfl H ?_ ?_ ?_ (hK _ _ ?_); rotate_left 1; (repeat first | exact .head _ | apply List.Mem.tail); (focus (intro _; simp; done)); (focus (intro _; simp; done))); clear hK K) | (guard_target =~ wpList _ _ _ (Oper.mk _ (.store _ _ _) _ _ _ _ :: _) _ _; refine BigFrame.wpList_want rfl (fun K hK => ?_); refine o_store (l' := ?_) (row := ?_) rfl rfl H rfl ?_ ?_ ?_ ?_ (fun w3 H2 => hK _ _ ?_); rotate_left 2; (exact r0); (focus (intro _; simp [Act.eval, Value.cells]; done)); (focus (simp [Act.eval, Value.cells]; done)); (exact rfl); clear hK K; clear H; (try clear w2); revert w3; intro w2 H; simp [Act.eval, Value.cells, setL, List.getD] at H) | ((first | (guard_target =~ wpList _ _ _ (Oper.mk _ (.alloc _) _ _ _ _ :: _) _ _; refine BigFrame.wpList_want rfl (fun K hK => ?_); refine o_alloc (z := ?_) rfl ?_ H rfl (fun w3 b2 he H2 => hK _ _ ?_); rotate_left 1; (focus (intro _; simp; with_reducible exact rfl))) | (guard_target =~ wpList _ _ _ (Oper.mk _ (.box _ _) _ _ _ _ :: _) _ _; refine BigFrame.wpList_want rfl (fun K hK => ?_); refine o_box rfl H rfl (fun w3 b2 he H2 => hK _ _ ?_))); clear hK K he; clear H; (try clear w2); revert w3; intro w2 H; simp [Act.eval, Value.cells, setL, List.getD] at H; (first | (clear tk0; rename Nat => b1) | (clear tk1; rename Nat => b2)))); simp only [Act.put, List.setIfInBounds_toArray, List.set_cons_succ, List.set_cons_zero]))
  have hr := H.loadVarN (P := Try.prog) (ty := 69) (b := b2) (by exact m0) (by simp) (by simp)
  (try rw [Exit.noGoto_ret])
  exact bodyPost_ret (v := .tuple #[spV 0 0, .int .i64 5]) (by simp [results, Try.results41, asAddr, hr]) rfl ⟨rfl, H.tail.tail⟩
set_option maxRecDepth 100000 in
set_option maxHeartbeats 8000000 in
theorem findE_any {B : Nat} {w0 w : World} {l : List Res} {bx ks ke cn cp dn dp n m : Nat} {E : List (Pt × Bool)} {x y : Int} (hin : inB ⟨x, y⟩ = true) (he : (getA E ⟨x, y⟩).getD false = true) (H : Own B w0 w (xB bx ks ke n m cn cp dn dp :: mEnd ke E :: l)) :
    Calls Try.prog 41 #[.pointer (some ⟨bx, 0, none⟩), pV x y] w fun e w' => e = .returned (.tuple #[spV 0 0, .int .i64 7]) ∧ Own B w0 w' (xB bx ks ke n m cn cp dn dp :: mEnd ke E :: l) := by
  have h1 := fun w => geomIn_any x y w
  rw [hin] at h1
  simp only [xB] at H ⊢
  clear hin
  go_enter Try.func41, Try.ntmps41
  have tk0 : True := trivial
  have tk1 : True := trivial
  go_wp2_with (first
    | (guard_target =~ Code.wp _ (Code.scope _) _ _ _; go_step3)
    | (go_at_call 55; (with_reducible refine (h1 _).mono ?_); rintro e w3 ⟨rfl, hb⟩; replace H := H.ext hb; clear hb; dsimp only; (skip))
    | (guard_target =~ Code.wp _ (Code.region 5 _ true) _ _ _; refine region_treeC0 5 (G := True) (.q 0 (.q 4 (.e 1 (.q 2 (.q 3 (.q 5 (.q 6 .nil))))))) (by kernel_rfl) (by intro c a d v w h; cases d <;> first | exact h | exact hQ h) (by kernel_rfl) H ⟨trivial⟩ (fun _ w3 H2 => ?_); (clear H; (try clear w2); revert w3; intro w2 H))
    | (guard_target =~ wpList _ _ _ (_ :: _) _ _; (first | (guard_target =~ wpList _ _ _ (Oper.mk _ (.load _ _) _ _ _ _ :: _) _ _; refine BigFrame.wpList_want rfl (fun K hK => ?_); (refine o_loadNC (row := ?_) rfl rfl H ?_ ?_ ?_ (hK _ _ ?_); rotate_left 1; (repeat first | exact .head _ | apply List.Mem.tail); (focus (intro _; simp [he]; done)); (focus (intro _; simp [he]; done))); clear hK K) | (guard_target =~ wpList _ _ _ (Oper.mk _ (.store _ _ _) _ _ _ _ :: _) _ _; refine BigFrame.wpList_want rfl (fun K hK => ?_); refine o_store (l' := ?_) (row := ?_) rfl rfl H rfl ?_ ?_ ?_ ?_ (fun w3 H2 => hK _ _ ?_); rotate_left 2; (exact r0); (focus (intro _; (simp [Act.eval, Value.cells, List.getD, he]; done))); (focus (simp [Act.eval, Value.cells, List.getD, he]; done)); (exact rfl); clear hK K; clear H; (try clear w2); revert w3; intro w2 H; (try simp [Act.eval, List.getD, he] at H); (try simp [Value.cells, setL, he] at H)) | ((first | (guard_target =~ wpList _ _ _ (Oper.mk _ (.alloc _) _ _ _ _ :: _) _ _; refine BigFrame.wpList_want rfl (fun K hK => ?_); refine o_alloc (z := ?_) rfl ?_ H rfl (fun w3 b2 he H2 => hK _ _ ?_); rotate_left 1; (focus (intro _; simp; with_reducible exact rfl))) | (guard_target =~ wpList _ _ _ (Oper.mk _ (.box _ _) _ _ _ _ :: _) _ _; refine BigFrame.wpList_want rfl (fun K hK => ?_); refine o_box rfl H rfl (fun w3 b2 he H2 => hK _ _ ?_))); clear hK K he; clear H; (try clear w2); revert w3; intro w2 H; (try simp [Act.eval, List.getD, he] at H); (try simp [Value.cells, setL, he] at H); (first | (clear tk0; rename Nat => b1) | (clear tk1; rename Nat => b2)))); simp only [Act.put, List.setIfInBounds_toArray, List.set_cons_succ, List.set_cons_zero, he])
    | (guard_target =~ wpTreeC _ _ _ _ _ _ _; first | (guard_target =~ wpTreeC _ _ _ (Tr.e _ Tr.nil) _ _ _; refine treeC_last (by decide +kernel) H rfl rfl (fun w3 H2 K hK => ?_); clear H; (try clear w2); (revert w3; intro w2 H); simp only [List.getElem_toArray, List.getElem_cons_succ, List.getElem_cons_zero]; (first | fail); simp only [Act.put, List.setIfInBounds_toArray, List.set_cons_succ, List.set_cons_zero, he]) | (guard_target =~ wpTreeC _ _ _ (Tr.q _ _) _ _ _; first | (refine treeC_quiet ⟨_, H, by repeat first | exact .here | apply Suf.there⟩ rfl rfl rfl (fun K hK => ?_); simp only [List.getElem_toArray, List.getElem_cons_succ, List.getElem_cons_zero]; first | (guard_target =~ Oper.quiet _ (Oper.mk _ (.lookup _ _ _ false) _ _ _ _) _ _ _; refine q_endGet (m := ?_) rfl rfl rfl ?_ (hK _ ?_); rotate_left 1; (repeat first | exact .head _ | apply List.Mem.tail); clear hK K; simp only [Act.put, List.setIfInBounds_toArray, List.set_cons_succ, List.set_cons_zero, he]) | (guard_target =~ Oper.quiet _ (Oper.mk _ (.lookup _ _ _ true) _ _ _ _) _ _ _; refine q_endOk (m := ?_) rfl rfl rfl ?_ (hK _ ?_); rotate_left 1; (repeat first | exact .head _ | apply List.Mem.tail); clear hK K; simp only [Act.put, List.setIfInBounds_toArray, List.set_cons_succ, List.set_cons_zero, he]) | (guard_target =~ Oper.quiet _ (Oper.mk _ (.load _ _) _ _ _ _) _ _ _; (first | (refine q_loadC (v := ?_) (row := ?_) rfl rfl ?_ ?_ ?_ (hK _ ?_); rotate_left 2; (repeat first | exact .head _ | apply List.Mem.tail); (exact rfl); (focus (intro _; simp [he]; done))) | (refine q_loadNC (row := ?_) rfl rfl ?_ ?_ ?_ (hK _ ?_); rotate_left 1; (repeat first | exact .head _ | apply List.Mem.tail); (focus (intro _; simp [he]; done)); (focus (intro _; simp [he]; done)))); clear hK K; simp only [Act.put, List.setIfInBounds_toArray, List.set_cons_succ, List.set_cons_zero, he]) | (go_big_quiet_op; (try refine ⟨_, fun _ _ => rfl, ?_⟩); refine hK _ ?_; clear hK K)) | (refine treeC_call (v := ?_) ⟨_, H, by repeat first | exact .here | apply Suf.there⟩ rfl rfl (fun w3 H K hK => ?_) ?_; rotate_left 1; (focus (simp only [List.getElem_toArray, List.getElem_cons_succ, List.getElem_cons_zero]; first | (go_big_op; first | exact hK _ (Ext.refl _) | (go_at_call 55; (with_reducible refine (h1 _).mono ?_); rintro e w3 ⟨rfl, hb⟩; dsimp only; first | exact hK _ hb | exact hK _ (Ext.refl _))))); simp only [List.getElem_toArray, List.getElem_cons_succ, List.getElem_cons_zero, Act.put, List.setIfInBounds_toArray, List.set_cons_succ, List.set_cons_zero, he]) | (refine treeC_skip ⟨_, H, by repeat first | exact .here | apply Suf.there⟩ rfl rfl ?_; simp only [List.getElem_toArray, List.getElem_cons_succ, List.getElem_cons_zero, Act.put, List.setIfInBounds_toArray, List.set_cons_succ, List.set_cons_zero, he])) | (guard_target =~ wpTreeC _ _ _ (Tr.both _ _) _ _ _; refine treeC_both ?_ ?_) | (guard_target =~ wpTreeC _ _ _ (Tr.e _ _) _ _ _; first | (refine treeC_one H rfl rfl (fun w3 H2 K hK => ?_); clear H; (try clear w2); (revert w3; intro w2 H); simp only [List.getElem_toArray, List.getElem_cons_succ, List.getElem_cons_zero]; first | ((first | fail); simp only [Act.put, List.setIfInBounds_toArray, List.set_cons_succ, List.set_cons_zero, he]) | (go_big_op; (refine hK _ _ ⟨_, H, by repeat first | exact .here | apply Suf.there⟩ ?_; clear hK K; (try simp only [Act.put, List.setIfInBounds_toArray, List.set_cons_succ, List.set_cons_zero, he])))) | (refine treeC_one_skip (fun w3 hx => ⟨_, H.ext hx, by repeat first | exact .here | apply Suf.there⟩) rfl rfl (fun w3 hx => ?_); replace H := H.ext hx; clear hx; (try clear w2); revert w3; intro w2 H; simp only [List.getElem_toArray, List.getElem_cons_succ, List.getElem_cons_zero, Act.put, List.setIfInBounds_toArray, List.set_cons_succ, List.set_cons_zero, he])) | (guard_target =~ wpTreeC _ _ _ Tr.nil _ _ _; refine treeC_nil H (fun w3 H2 => ?_); clear H; (try clear w2); revert w3; intro w2 H)))
  have hr := H.loadVarN (P := Try.prog) (ty := 69) (b := b2) (by exact m0) (by simp) (by simp)
  (try rw [Exit.noGoto_ret])
  exact bodyPost_ret (v := .tuple #[spV 0 0, .int .i64 7]) (by simp [results, Try.results41, asAddr, hr]) rfl ⟨rfl, (H.sub (by repeat first | exact List.Sublist.refl _ | apply List.Sublist.cons_cons | apply List.Sublist.cons))⟩
/-- What is answered. -/
def spotOf (N : List Nd) (P : List Pc) : Ans → Value
  | .on id => spV id 0
  | .leaf n => spV 0 (((P[idN N n]?).getD pc0).t.bot)
def LeafOK (N : List Nd) (P : List Pc) : Ans → Prop
  | .on _ => True
  | .leaf n => ∃ i p, N[n]? = some (lfN i) ∧ P[i]? = some p
def FindRel (N : List Nd) (P : List Pc) (S : List (Int × Sg)) (E : List (Pt × Bool)) (q : Pt) (r : Ans) (B : Nat) (w0 : World) (bx ks ke cn cp dn dp b1 b2 b3 : Nat) (l : List Res) (k : Nat) (wr : World) : Prop :=
  ∃ nd m, N[m]? = some nd ∧ DescZ N S q k m r ∧ Own B w0 wr (.cells b3 (nd6 nd) :: .cells b2 [.int .i64 0, .int .i64 0] :: .cells b1 [.int .i64 q.x, .int .i64 q.y] :: xB bx ks ke N.length P.length cn cp dn dp :: nG dn N.length cn N :: pG dp P.length cp P :: mSeg ks S :: mEnd ke E :: l)
set_option maxRecDepth 100000 in
set_option maxHeartbeats 16000000 in
theorem find_any {B : Nat} {w0 w : World} {l : List Res} {bx ks ke cn cp dn dp k : Nat} {N : List Nd} {P : List Pc} {S : List (Int × Sg)} {E : List (Pt × Bool)} {x y : Int} {r : Ans} (hin : inB ⟨x, y⟩ = true) (he : (getA E ⟨x, y⟩).getD false = false) (hd : DescZ N S ⟨x, y⟩ k 0 r) (hleaf : LeafOK N P r) (hN : N.length ≤ 1000000) (hP : P.length ≤ 1000000)
    (H : Own B w0 w (xB bx ks ke N.length P.length cn cp dn dp :: nG dn N.length cn N :: pG dp P.length cp P :: mSeg ks S :: mEnd ke E :: l)) :
    Calls Try.prog 41 #[.pointer (some ⟨bx, 0, none⟩), pV x y] w fun e w' => e = .returned (.tuple #[spotOf N P r, .int .i64 0]) ∧ Own B w0 w' (xB bx ks ke N.length P.length cn cp dn dp :: nG dn N.length cn N :: pG dp P.length cp P :: mSeg ks S :: mEnd ke E :: l) := by
  have h1 := fun w => geomIn_any x y w
  rw [hin] at h1
  obtain ⟨nd, hnd⟩ := hd.node
  have HD := Lib.hid hd
  have HL := Lib.hid hleaf
  have HND := Lib.hid hnd
  have hp := n_grow (n := N.length) (b := dn) (c := cn) hnd
  simp only [nd6, Nat.zero_mul] at hp
  have hpos : 0 < N.length := (List.getElem?_eq_some_iff.1 hnd).1
  simp only [xB, nG, pG] at H ⊢
  clear hin hd hleaf hnd
  go_enter Try.func41, Try.ntmps41
  have tk0 : True := trivial
  have tk1 : True := trivial
  have tk2 : True := trivial
  go_wp2_with (first
    | (guard_target =~ Code.wp _ (Code.scope _) _ _ _; go_step3)
    | (guard_target =~ Code.wp _ (Code.label _) _ _ _; go_step3)
    | (go_at_call 55; (with_reducible refine (h1 _).mono ?_); rintro e w3 ⟨rfl, hb⟩; replace H := H.ext hb; clear hb; dsimp only; (skip))
    | (guard_target =~ Code.wp _ (Code.region 5 _ true) _ _ _; refine region_treeC0 5 (G := True) (.q 0 (.q 4 (.e 1 (.q 2 (.q 3 (.q 5 (.q 6 .nil))))))) (by kernel_rfl) (by intro c a d v w h; cases d <;> first | exact h | exact hQ h) (by kernel_rfl) H ⟨trivial⟩ (fun _ w3 H2 => ?_); (clear H; (try clear w2); revert w3; intro w2 H))
    | (guard_target =~ wpList _ _ _ (_ :: _) _ _; (first | (guard_target =~ wpList _ _ _ (Oper.mk _ (.load _ _) _ _ _ _ :: _) _ _; refine BigFrame.wpList_want rfl (fun K hK => ?_); (first | (refine o_loadC (v := ?_) (row := ?_) rfl rfl H ?_ ?_ ?_ (hK _ _ ?_); rotate_left 2; (repeat first | exact .head _ | apply List.Mem.tail); (exact rfl); (focus (intro _; simp [he]; done))) | (refine o_loadN (cs := ?_) (r := ?_) rfl rfl H ?_ ?_ ?_ ?_ (hK _ _ ?_); rotate_left 2; (with_reducible assumption); (repeat first | exact .head _ | apply List.Mem.tail); (focus (intro _; simp [he]; done)); (focus (intro _; simp [he]; done))) | (refine o_loadNC (row := ?_) rfl rfl H ?_ ?_ ?_ (hK _ _ ?_); rotate_left 1; (repeat first | exact .head _ | apply List.Mem.tail); (focus (intro _; simp [he]; done)); (focus (intro _; simp [he]; done)))); clear hK K) | (guard_target =~ wpList _ _ _ (Oper.mk _ (.store _ _ _) _ _ _ _ :: _) _ _; refine BigFrame.wpList_want rfl (fun K hK => ?_); refine o_store (l' := ?_) (row := ?_) rfl rfl H rfl ?_ ?_ ?_ ?_ (fun w3 H2 => hK _ _ ?_); rotate_left 2; (exact r0); (focus (intro _; (simp [Act.eval, Value.cells, List.getD, he]; done))); (focus (simp [Act.eval, Value.cells, List.getD, he]; done)); (exact rfl); clear hK K; clear H; (try clear w2); revert w3; intro w2 H; (try simp [Act.eval, List.getD, he] at H); (try simp [Value.cells, setL, he] at H)) | ((first | (guard_target =~ wpList _ _ _ (Oper.mk _ (.alloc _) _ _ _ _ :: _) _ _; refine BigFrame.wpList_want rfl (fun K hK => ?_); refine o_alloc (z := ?_) rfl ?_ H rfl (fun w3 b2 he H2 => hK _ _ ?_); rotate_left 1; (focus (intro _; simp; with_reducible exact rfl))) | (guard_target =~ wpList _ _ _ (Oper.mk _ (.box _ _) _ _ _ _ :: _) _ _; refine BigFrame.wpList_want rfl (fun K hK => ?_); refine o_box rfl H rfl (fun w3 b2 he H2 => hK _ _ ?_))); clear hK K he; clear H; (try clear w2); revert w3; intro w2 H; (try simp [Act.eval, List.getD, he] at H); (try simp [Value.cells, setL, he] at H); (first | (clear tk0; rename Nat => b1) | (clear tk1; rename Nat => b2) | (clear tk2; rename Nat => b3)))); simp only [Act.put, List.setIfInBounds_toArray, List.set_cons_succ, List.set_cons_zero, he])
    | (guard_target =~ wpTreeC _ _ _ _ _ _ _; first | (guard_target =~ wpTreeC _ _ _ (Tr.e _ Tr.nil) _ _ _; refine treeC_last (by decide +kernel) H rfl rfl (fun w3 H2 K hK => ?_); clear H; (try clear w2); (revert w3; intro w2 H); simp only [List.getElem_toArray, List.getElem_cons_succ, List.getElem_cons_zero]; (first | fail); simp only [Act.put, List.setIfInBounds_toArray, List.set_cons_succ, List.set_cons_zero, he]) | (guard_target =~ wpTreeC _ _ _ (Tr.q _ _) _ _ _; first | (refine treeC_quiet ⟨_, H, by repeat first | exact .here | apply Suf.there⟩ rfl rfl rfl (fun K hK => ?_); simp only [List.getElem_toArray, List.getElem_cons_succ, List.getElem_cons_zero]; first | (guard_target =~ Oper.quiet _ (Oper.mk _ (.lookup _ _ _ false) _ _ _ _) _ _ _; refine q_endGet (m := ?_) rfl rfl rfl ?_ (hK _ ?_); rotate_left 1; (repeat first | exact .head _ | apply List.Mem.tail); clear hK K; simp only [Act.put, List.setIfInBounds_toArray, List.set_cons_succ, List.set_cons_zero, he]) | (guard_target =~ Oper.quiet _ (Oper.mk _ (.lookup _ _ _ true) _ _ _ _) _ _ _; refine q_endOk (m := ?_) rfl rfl rfl ?_ (hK _ ?_); rotate_left 1; (repeat first | exact .head _ | apply List.Mem.tail); clear hK K; simp only [Act.put, List.setIfInBounds_toArray, List.set_cons_succ, List.set_cons_zero, he]) | (guard_target =~ Oper.quiet _ (Oper.mk _ (.load _ _) _ _ _ _) _ _ _; (first | (refine q_loadC (v := ?_) (row := ?_) rfl rfl ?_ ?_ ?_ (hK _ ?_); rotate_left 2; (repeat first | exact .head _ | apply List.Mem.tail); (exact rfl); (focus (intro _; simp [he]; done))) | (refine q_loadNC (row := ?_) rfl rfl ?_ ?_ ?_ (hK _ ?_); rotate_left 1; (repeat first | exact .head _ | apply List.Mem.tail); (focus (intro _; simp [he]; done)); (focus (intro _; simp [he]; done)))); clear hK K; simp only [Act.put, List.setIfInBounds_toArray, List.set_cons_succ, List.set_cons_zero, he]) | (go_big_quiet_op; (try refine ⟨_, fun _ _ => rfl, ?_⟩); refine hK _ ?_; clear hK K)) | (refine treeC_call (v := ?_) ⟨_, H, by repeat first | exact .here | apply Suf.there⟩ rfl rfl (fun w3 H K hK => ?_) ?_; rotate_left 1; (focus (simp only [List.getElem_toArray, List.getElem_cons_succ, List.getElem_cons_zero]; first | (go_big_op; first | exact hK _ (Ext.refl _) | (go_at_call 55; (with_reducible refine (h1 _).mono ?_); rintro e w3 ⟨rfl, hb⟩; dsimp only; first | exact hK _ hb | exact hK _ (Ext.refl _))))); simp only [List.getElem_toArray, List.getElem_cons_succ, List.getElem_cons_zero, Act.put, List.setIfInBounds_toArray, List.set_cons_succ, List.set_cons_zero, he]) | (refine treeC_skip ⟨_, H, by repeat first | exact .here | apply Suf.there⟩ rfl rfl ?_; simp only [List.getElem_toArray, List.getElem_cons_succ, List.getElem_cons_zero, Act.put, List.setIfInBounds_toArray, List.set_cons_succ, List.set_cons_zero, he])) | (guard_target =~ wpTreeC _ _ _ (Tr.both _ _) _ _ _; refine treeC_both ?_ ?_) | (guard_target =~ wpTreeC _ _ _ (Tr.e _ _) _ _ _; first | (refine treeC_one H rfl rfl (fun w3 H2 K hK => ?_); clear H; (try clear w2); (revert w3; intro w2 H); simp only [List.getElem_toArray, List.getElem_cons_succ, List.getElem_cons_zero]; first | ((first | fail); simp only [Act.put, List.setIfInBounds_toArray, List.set_cons_succ, List.set_cons_zero, he]) | (go_big_op; (refine hK _ _ ⟨_, H, by repeat first | exact .here | apply Suf.there⟩ ?_; clear hK K; (try simp only [Act.put, List.setIfInBounds_toArray, List.set_cons_succ, List.set_cons_zero, he])))) | (refine treeC_one_skip (fun w3 hx => ⟨_, H.ext hx, by repeat first | exact .here | apply Suf.there⟩) rfl rfl (fun w3 hx => ?_); replace H := H.ext hx; clear hx; (try clear w2); revert w3; intro w2 H; simp only [List.getElem_toArray, List.getElem_cons_succ, List.getElem_cons_zero, Act.put, List.setIfInBounds_toArray, List.set_cons_succ, List.set_cons_zero, he])) | (guard_target =~ wpTreeC _ _ _ Tr.nil _ _ _; refine treeC_nil H (fun w3 H2 => ?_); clear H; (try clear w2); revert w3; intro w2 H)))
  go_loopg [] k (FindRel N P S E ⟨x, y⟩ r B w0 bx ks ke cn cp dn dp b1 b2 b3 l)
  case atStart => exact ⟨nd, 0, HND.out, HD.out, H⟩
  case round =>
    clear H hp HD HND
    obtain ⟨⟨kk, id, ⟨px, py⟩, na, nb⟩, m, hnd, hd, H⟩ := hrel
    simp only [nd6, xB, nG, pG] at H
    have hmN : m < N.length := (List.getElem?_eq_some_iff.1 hnd).1
    cases hd with
    | leaf h hk =>
      obtain ⟨i, p, e1, e2⟩ := HL.out
      rw [hnd] at e1
      injection e1 with e1
      injection e1 with e1 e3 e4 e5 e6
      subst e1 e3 e5 e6
      have hp := p_bot (n := P.length) (b := dp) (c := cp) e2
      have hil : i < P.length := (List.getElem?_eq_some_iff.1 e2).1
      have hz : spotOf N P (.leaf m) = spV 0 p.t.bot := by
        have e7 : idN N m = i := by unfold idN; rw [hnd]; simp
        show spV 0 (((P[idN N m]?).getD pc0).t.bot) = _
        rw [e7, e2]; rfl
      have HZ := Lib.hid hz
      clear h hk e2 hnd hz
      have tk0 : True := trivial
      go_wp2_with (first
        | (guard_target =~ Code.wp _ (Code.region 22 _ true) _ _ _; (replace H:Own _ _ _ (Res.cells b2 _ :: _) := H.front1); refine region_treeC 22 1 (G := True) (.q 0 (.q 4 (.q 5 (.e 1 (.q 2 (.q 3 (.q 6 (.q 7 (.q 8 (.q 9 (.q 10 (.e 11 (.q 12 .nil))))))))))))) (by kernel_rfl) (by intro c a d v w h; cases d <;> first | exact h | exact hQ h) (by kernel_rfl) H ⟨trivial⟩ (fun _ w3 H2 => ?_); (clear H; (try clear w2); revert w3; intro w2 H); simp only [List.drop_succ_cons, List.drop_zero])
        | (guard_target =~ wpList _ _ _ (_ :: _) _ _; (guard_target =~ wpList _ _ _ (Oper.mk _ (.load _ _) _ _ _ _ :: _) _ _; refine BigFrame.wpList_want rfl (fun K hK => ?_); (refine o_loadC (v := ?_) (row := ?_) rfl rfl H ?_ ?_ ?_ (hK _ _ ?_); rotate_left 2; (repeat first | exact .head _ | apply List.Mem.tail); (exact rfl); (focus (intro _; simp; done))); clear hK K); simp only [Act.put, List.setIfInBounds_toArray, List.set_cons_succ, List.set_cons_zero])
        | (guard_target =~ wpTreeC _ _ _ _ _ _ _; first | (guard_target =~ wpTreeC _ _ _ (Tr.e _ Tr.nil) _ _ _; refine treeC_last (by decide +kernel) H rfl rfl (fun w3 H2 K hK => ?_); clear H; (try clear w2); (revert w3; intro w2 H); simp only [List.getElem_toArray, List.getElem_cons_succ, List.getElem_cons_zero]; (first | fail); simp only [Act.put, List.setIfInBounds_toArray, List.set_cons_succ, List.set_cons_zero]) | (guard_target =~ wpTreeC _ _ _ (Tr.q _ _) _ _ _; first | (refine treeC_quiet ⟨_, H, by repeat first | exact .here | apply Suf.there⟩ rfl rfl rfl (fun K hK => ?_); simp only [List.getElem_toArray, List.getElem_cons_succ, List.getElem_cons_zero]; first | (guard_target =~ Oper.quiet _ (Oper.mk _ (.load _ _) _ _ _ _) _ _ _; (first | (refine q_load (v := ?_) (r := ?_) rfl rfl ?_ ?_ ?_ (hK _ ?_); rotate_left 2; (with_reducible assumption); (repeat first | exact .head _ | apply List.Mem.tail); (focus (intro _; simp; done))) | (refine q_loadC (v := ?_) (row := ?_) rfl rfl ?_ ?_ ?_ (hK _ ?_); rotate_left 2; (repeat first | exact .head _ | apply List.Mem.tail); (exact rfl); (focus (intro _; simp; done)))); clear hK K; simp only [Act.put, List.setIfInBounds_toArray, List.set_cons_succ, List.set_cons_zero]) | (go_big_quiet_op; (try refine ⟨_, fun _ _ => rfl, ?_⟩); refine hK _ ?_; clear hK K)) | (refine treeC_call (v := ?_) ⟨_, H, by repeat first | exact .here | apply Suf.there⟩ rfl rfl (fun w3 H K hK => ?_) ?_; rotate_left 1; (focus (simp only [List.getElem_toArray, List.getElem_cons_succ, List.getElem_cons_zero]; first | (go_big_op; first | exact hK _ (Ext.refl _)))); simp only [List.getElem_toArray, List.getElem_cons_succ, List.getElem_cons_zero, Act.put, List.setIfInBounds_toArray, List.set_cons_succ, List.set_cons_zero]) | (refine treeC_skip ⟨_, H, by repeat first | exact .here | apply Suf.there⟩ rfl rfl ?_; simp only [List.getElem_toArray, List.getElem_cons_succ, List.getElem_cons_zero, Act.put, List.setIfInBounds_toArray, List.set_cons_succ, List.set_cons_zero])) | (guard_target =~ wpTreeC _ _ _ (Tr.both _ _) _ _ _; refine treeC_both ?_ ?_) | (guard_target =~ wpTreeC _ _ _ (Tr.e _ _) _ _ _; first | (refine treeC_one H rfl rfl (fun w3 H2 K hK => ?_); clear H; (try clear w2); (revert w3; intro w2 H); simp only [List.getElem_toArray, List.getElem_cons_succ, List.getElem_cons_zero]; first | ((guard_target =~ Oper.wp _ (Oper.mk _ (.store _ _ _) _ _ _ _) _ _ _ _; refine o_store (l' := ?_) (row := ?_) rfl rfl H rfl ?_ ?_ ?_ ?_ (fun w3 H2 => hK _ _ ⟨_, H2, ?_⟩ ?_); rotate_left 2; (exact r0); (focus (intro _; simp [Act.eval, Value.cells]; done)); (focus (simp [Act.eval, Value.cells]; done)); (exact rfl); (guard_target =~ Suf _ _; repeat first | exact .here | apply Suf.there); clear hK K; clear H; (try clear w2); revert w3; intro w2 H; simp [Act.eval, Value.cells, setL, List.getD] at H); simp only [Act.put, List.setIfInBounds_toArray, List.set_cons_succ, List.set_cons_zero]) | (go_big_op; (refine hK _ _ ⟨_, H, by repeat first | exact .here | apply Suf.there⟩ ?_; clear hK K; (try simp only [Act.put, List.setIfInBounds_toArray, List.set_cons_succ, List.set_cons_zero])))) | (refine treeC_one_skip (fun w3 hx => ⟨_, H.ext hx, by repeat first | exact .here | apply Suf.there⟩) rfl rfl (fun w3 hx => ?_); replace H := H.ext hx; clear hx; (try clear w2); revert w3; intro w2 H; simp only [List.getElem_toArray, List.getElem_cons_succ, List.getElem_cons_zero, Act.put, List.setIfInBounds_toArray, List.set_cons_succ, List.set_cons_zero])) | (guard_target =~ wpTreeC _ _ _ Tr.nil _ _ _; refine treeC_nil H (fun w3 H2 => ?_); clear H; (try clear w2); revert w3; intro w2 H)))
      have hr := H.loadVarN (P := Try.prog) (ty := 69) (b := b2) (by exact m0) (by simp) (by simp)
      (try rw [Exit.noGoto_ret])
      exact bodyPost_ret (v := .tuple #[spV 0 p.t.bot, .int .i64 0]) (by simp [results, Try.results41, asAddr, hr]) rfl ⟨by rw [HZ.out], (H.sub (by repeat first | exact List.Sublist.refl _ | apply List.Sublist.cons_cons | apply List.Sublist.cons))⟩
    | @ptL n2 m' k' d r2 h hk hx hm hd' =>
      rw [hnd] at h
      injection h with h
      subst h
      simp only at hk hx hm
      subst hk hm
      obtain ⟨nd', hnd'⟩ := hd'.node
      have hp := n_grow (n := N.length) (b := dn) (c := cn) hnd'
      simp only [nd6] at hp
      have hml : m' < N.length := (List.getElem?_eq_some_iff.1 hnd').1
      have h2 := fun w => geomLess_any x y px py w
      have h3 : ∀ w : World, True := fun _ => trivial
      have hs0 : True := trivial
      rw [hx] at h2
      have HD := Lib.hid hd'
      have HND := Lib.hid hnd'
      clear hd' hnd' hnd hx h3
      have tk0 : True := trivial
      go_wp2_with (first
        | (go_at_call 69; (with_reducible refine (h2 _).mono ?_); rintro e w3 ⟨rfl, hb⟩; replace H := H.ext hb; clear hb; dsimp only; (skip))
        | (guard_target =~ Code.wp _ (Code.region 12 _ true) _ _ _; refine region_treeC0 12 (G := True) (.q 0 (.q 4 (.q 5 (.e 1 (.q 2 (.q 3 (.q 6 (.q 7 (.e 8 .nil))))))))) (by kernel_rfl) (by intro c a d v w h; cases d <;> first | exact h | exact hQ h) (by kernel_rfl) H ⟨trivial⟩ (fun _ w3 H2 => ?_); (clear H; (try clear w2); revert w3; intro w2 H))
        | (guard_target =~ wpList _ _ _ (_ :: _) _ _; (guard_target =~ wpList _ _ _ (Oper.mk _ (.load _ _) _ _ _ _ :: _) _ _; refine BigFrame.wpList_want rfl (fun K hK => ?_); (first | (refine o_loadNp (t0 := ?_) (t1 := ?_) (t2 := ?_) (t3 := ?_) (t4 := ?_) (t5 := ?_) rfl rfl H ?_ ?_ ?_ (hK _ _ ?_); rotate_left 6; (repeat first | exact .head _ | apply List.Mem.tail); (focus (intro _; simp; done)); (focus (intro _; simp; done))) | (refine o_loadC (v := ?_) (row := ?_) rfl rfl H ?_ ?_ ?_ (hK _ _ ?_); rotate_left 2; (repeat first | exact .head _ | apply List.Mem.tail); (exact rfl); (focus (intro _; simp; done))) | (refine o_loadNC (row := ?_) rfl rfl H ?_ ?_ ?_ (hK _ _ ?_); rotate_left 1; (repeat first | exact .head _ | apply List.Mem.tail); (focus (intro _; simp; done)); (focus (intro _; simp; done)))); clear hK K); simp only [Act.put, List.setIfInBounds_toArray, List.set_cons_succ, List.set_cons_zero])
        | (guard_target =~ wpTreeC _ _ _ _ _ _ _; first | (guard_target =~ wpTreeC _ _ _ (Tr.e _ Tr.nil) _ _ _; refine treeC_last (by decide +kernel) H rfl rfl (fun w3 H2 K hK => ?_); clear H; (try clear w2); (revert w3; intro w2 H); simp only [List.getElem_toArray, List.getElem_cons_succ, List.getElem_cons_zero]; (guard_target =~ Oper.wp _ (Oper.mk _ (.store _ _ _) _ _ _ _) _ _ _ _; refine o_store (l' := ?_) (row := ?_) rfl rfl H rfl ?_ ?_ ?_ ?_ (fun w3 H2 => hK _ _ ?_); rotate_left 2; (exact r0); (focus (intro _; simp [Act.eval, Value.cells]; done)); (focus (simp [Act.eval, Value.cells]; done)); (exact rfl); clear hK K; clear H; (try clear w2); revert w3; intro w2 H; simp [Act.eval, Value.cells, setL, List.getD] at H); simp only [Act.put, List.setIfInBounds_toArray, List.set_cons_succ, List.set_cons_zero]) | (guard_target =~ wpTreeC _ _ _ (Tr.q _ _) _ _ _; first | (refine treeC_quiet ⟨_, H, by repeat first | exact .here | apply Suf.there⟩ rfl rfl rfl (fun K hK => ?_); simp only [List.getElem_toArray, List.getElem_cons_succ, List.getElem_cons_zero]; first | (guard_target =~ Oper.quiet _ (Oper.mk _ (.lookup _ _ _ false) _ _ _ _) _ _ _; refine q_segGet (m := ?_) rfl rfl rfl ?_ (hK _ ?_); rotate_left 1; (repeat first | exact .head _ | apply List.Mem.tail); clear hK K; simp only [Act.put, List.setIfInBounds_toArray, List.set_cons_succ, List.set_cons_zero]) | (guard_target =~ Oper.quiet _ (Oper.mk _ (.lookup _ _ _ true) _ _ _ _) _ _ _; refine q_segOk (m := ?_) rfl rfl rfl ?_ (hK _ ?_); rotate_left 1; (repeat first | exact .head _ | apply List.Mem.tail); clear hK K; simp only [Act.put, List.setIfInBounds_toArray, List.set_cons_succ, List.set_cons_zero]) | (guard_target =~ Oper.quiet _ (Oper.mk _ (.load _ _) _ _ _ _) _ _ _; (first | (refine q_loadC (v := ?_) (row := ?_) rfl rfl ?_ ?_ ?_ (hK _ ?_); rotate_left 2; (repeat first | exact .head _ | apply List.Mem.tail); (exact rfl); (focus (intro _; simp; done))) | (refine q_loadN (cs := ?_) (r := ?_) rfl rfl ?_ ?_ ?_ ?_ (hK _ ?_); rotate_left 2; (with_reducible assumption); (repeat first | exact .head _ | apply List.Mem.tail); (focus (intro _; simp; done)); (focus (intro _; simp; done)))); clear hK K; simp only [Act.put, List.setIfInBounds_toArray, List.set_cons_succ, List.set_cons_zero]) | (go_big_quiet_op; (try refine ⟨_, fun _ _ => rfl, ?_⟩); refine hK _ ?_; clear hK K)) | (refine treeC_call (v := ?_) ⟨_, H, by repeat first | exact .here | apply Suf.there⟩ rfl rfl (fun w3 H K hK => ?_) ?_; rotate_left 1; (focus (simp only [List.getElem_toArray, List.getElem_cons_succ, List.getElem_cons_zero]; first | (refine o_segLen (m := ?_) rfl H ?_ ?_; rotate_left 1; (repeat first | exact .head _ | apply List.Mem.tail); exact hK _ (Ext.refl _)) | (go_big_op; first | exact hK _ (Ext.refl _) | (go_at_call 69; (with_reducible refine (h2 _).mono ?_); rintro e w3 ⟨rfl, hb⟩; dsimp only; first | exact hK _ hb | exact hK _ (Ext.refl _))))); simp only [List.getElem_toArray, List.getElem_cons_succ, List.getElem_cons_zero, Act.put, List.setIfInBounds_toArray, List.set_cons_succ, List.set_cons_zero]) | (refine treeC_skip ⟨_, H, by repeat first | exact .here | apply Suf.there⟩ rfl rfl ?_; simp only [List.getElem_toArray, List.getElem_cons_succ, List.getElem_cons_zero, Act.put, List.setIfInBounds_toArray, List.set_cons_succ, List.set_cons_zero])) | (guard_target =~ wpTreeC _ _ _ (Tr.both _ _) _ _ _; refine treeC_both ?_ ?_) | (guard_target =~ wpTreeC _ _ _ (Tr.e _ _) _ _ _; first | (refine treeC_one H rfl rfl (fun w3 H2 K hK => ?_); clear H; (try clear w2); (revert w3; intro w2 H); simp only [List.getElem_toArray, List.getElem_cons_succ, List.getElem_cons_zero]; first | ((first | fail); simp only [Act.put, List.setIfInBounds_toArray, List.set_cons_succ, List.set_cons_zero]) | (go_big_op; (refine hK _ _ ⟨_, H, by repeat first | exact .here | apply Suf.there⟩ ?_; clear hK K; (try simp only [Act.put, List.setIfInBounds_toArray, List.set_cons_succ, List.set_cons_zero])))) | (refine treeC_one_skip (fun w3 hx => ⟨_, H.ext hx, by repeat first | exact .here | apply Suf.there⟩) rfl rfl (fun w3 hx => ?_); replace H := H.ext hx; clear hx; (try clear w2); revert w3; intro w2 H; simp only [List.getElem_toArray, List.getElem_cons_succ, List.getElem_cons_zero, Act.put, List.setIfInBounds_toArray, List.set_cons_succ, List.set_cons_zero])) | (guard_target =~ wpTreeC _ _ _ Tr.nil _ _ _; refine treeC_nil H (fun w3 H2 => ?_); clear H; (try clear w2); revert w3; intro w2 H)))
      go_roundg k'
      case rel => exact ⟨nd', m', HND.out, HD.out, (H.sub (by repeat first | exact List.Sublist.refl _ | apply List.Sublist.cons_cons | apply List.Sublist.cons))⟩
      case measure => omega
    | @ptR n2 m' k' d r2 h hk hx hm hd' =>
      rw [hnd] at h
      injection h with h
      subst h
      simp only at hk hx hm
      subst hk hm
      obtain ⟨nd', hnd'⟩ := hd'.node
      have hp := n_grow (n := N.length) (b := dn) (c := cn) hnd'
      simp only [nd6] at hp
      have hml : m' < N.length := (List.getElem?_eq_some_iff.1 hnd').1
      have h2 := fun w => geomLess_any x y px py w
      have h3 : ∀ w : World, True := fun _ => trivial
      have hs0 : True := trivial
      rw [hx] at h2
      have HD := Lib.hid hd'
      have HND := Lib.hid hnd'
      clear hd' hnd' hnd hx h3
      have tk0 : True := trivial
      go_wp2_with (first
        | (go_at_call 69; (with_reducible refine (h2 _).mono ?_); rintro e w3 ⟨rfl, hb⟩; replace H := H.ext hb; clear hb; dsimp only; (skip))
        | (guard_target =~ Code.wp _ (Code.region 13 _ true) _ _ _; refine region_treeC0 13 (G := True) (.q 0 (.q 4 (.q 5 (.e 1 (.q 2 (.q 3 (.q 6 (.q 7 (.e 8 .nil))))))))) (by kernel_rfl) (by intro c a d v w h; cases d <;> first | exact h | exact hQ h) (by kernel_rfl) H ⟨trivial⟩ (fun _ w3 H2 => ?_); (clear H; (try clear w2); revert w3; intro w2 H))
        | (guard_target =~ wpList _ _ _ (_ :: _) _ _; (guard_target =~ wpList _ _ _ (Oper.mk _ (.load _ _) _ _ _ _ :: _) _ _; refine BigFrame.wpList_want rfl (fun K hK => ?_); (first | (refine o_loadNp (t0 := ?_) (t1 := ?_) (t2 := ?_) (t3 := ?_) (t4 := ?_) (t5 := ?_) rfl rfl H ?_ ?_ ?_ (hK _ _ ?_); rotate_left 6; (repeat first | exact .head _ | apply List.Mem.tail); (focus (intro _; simp; done)); (focus (intro _; simp; done))) | (refine o_loadC (v := ?_) (row := ?_) rfl rfl H ?_ ?_ ?_ (hK _ _ ?_); rotate_left 2; (repeat first | exact .head _ | apply List.Mem.tail); (exact rfl); (focus (intro _; simp; done))) | (refine o_loadNC (row := ?_) rfl rfl H ?_ ?_ ?_ (hK _ _ ?_); rotate_left 1; (repeat first | exact .head _ | apply List.Mem.tail); (focus (intro _; simp; done)); (focus (intro _; simp; done)))); clear hK K); simp only [Act.put, List.setIfInBounds_toArray, List.set_cons_succ, List.set_cons_zero])
        | (guard_target =~ wpTreeC _ _ _ _ _ _ _; first | (guard_target =~ wpTreeC _ _ _ (Tr.e _ Tr.nil) _ _ _; refine treeC_last (by decide +kernel) H rfl rfl (fun w3 H2 K hK => ?_); clear H; (try clear w2); (revert w3; intro w2 H); simp only [List.getElem_toArray, List.getElem_cons_succ, List.getElem_cons_zero]; (guard_target =~ Oper.wp _ (Oper.mk _ (.store _ _ _) _ _ _ _) _ _ _ _; refine o_store (l' := ?_) (row := ?_) rfl rfl H rfl ?_ ?_ ?_ ?_ (fun w3 H2 => hK _ _ ?_); rotate_left 2; (exact r0); (focus (intro _; simp [Act.eval, Value.cells]; done)); (focus (simp [Act.eval, Value.cells]; done)); (exact rfl); clear hK K; clear H; (try clear w2); revert w3; intro w2 H; simp [Act.eval, Value.cells, setL, List.getD] at H); simp only [Act.put, List.setIfInBounds_toArray, List.set_cons_succ, List.set_cons_zero]) | (guard_target =~ wpTreeC _ _ _ (Tr.q _ _) _ _ _; first | (refine treeC_quiet ⟨_, H, by repeat first | exact .here | apply Suf.there⟩ rfl rfl rfl (fun K hK => ?_); simp only [List.getElem_toArray, List.getElem_cons_succ, List.getElem_cons_zero]; first | (guard_target =~ Oper.quiet _ (Oper.mk _ (.lookup _ _ _ false) _ _ _ _) _ _ _; refine q_segGet (m := ?_) rfl rfl rfl ?_ (hK _ ?_); rotate_left 1; (repeat first | exact .head _ | apply List.Mem.tail); clear hK K; simp only [Act.put, List.setIfInBounds_toArray, List.set_cons_succ, List.set_cons_zero]) | (guard_target =~ Oper.quiet _ (Oper.mk _ (.lookup _ _ _ true) _ _ _ _) _ _ _; refine q_segOk (m := ?_) rfl rfl rfl ?_ (hK _ ?_); rotate_left 1; (repeat first | exact .head _ | apply List.Mem.tail); clear hK K; simp only [Act.put, List.setIfInBounds_toArray, List.set_cons_succ, List.set_cons_zero]) | (guard_target =~ Oper.quiet _ (Oper.mk _ (.load _ _) _ _ _ _) _ _ _; (first | (refine q_loadC (v := ?_) (row := ?_) rfl rfl ?_ ?_ ?_ (hK _ ?_); rotate_left 2; (repeat first | exact .head _ | apply List.Mem.tail); (exact rfl); (focus (intro _; simp; done))) | (refine q_loadN (cs := ?_) (r := ?_) rfl rfl ?_ ?_ ?_ ?_ (hK _ ?_); rotate_left 2; (with_reducible assumption); (repeat first | exact .head _ | apply List.Mem.tail); (focus (intro _; simp; done)); (focus (intro _; simp; done)))); clear hK K; simp only [Act.put, List.setIfInBounds_toArray, List.set_cons_succ, List.set_cons_zero]) | (go_big_quiet_op; (try refine ⟨_, fun _ _ => rfl, ?_⟩); refine hK _ ?_; clear hK K)) | (refine treeC_call (v := ?_) ⟨_, H, by repeat first | exact .here | apply Suf.there⟩ rfl rfl (fun w3 H K hK => ?_) ?_; rotate_left 1; (focus (simp only [List.getElem_toArray, List.getElem_cons_succ, List.getElem_cons_zero]; first | (refine o_segLen (m := ?_) rfl H ?_ ?_; rotate_left 1; (repeat first | exact .head _ | apply List.Mem.tail); exact hK _ (Ext.refl _)) | (go_big_op; first | exact hK _ (Ext.refl _) | (go_at_call 69; (with_reducible refine (h2 _).mono ?_); rintro e w3 ⟨rfl, hb⟩; dsimp only; first | exact hK _ hb | exact hK _ (Ext.refl _))))); simp only [List.getElem_toArray, List.getElem_cons_succ, List.getElem_cons_zero, Act.put, List.setIfInBounds_toArray, List.set_cons_succ, List.set_cons_zero]) | (refine treeC_skip ⟨_, H, by repeat first | exact .here | apply Suf.there⟩ rfl rfl ?_; simp only [List.getElem_toArray, List.getElem_cons_succ, List.getElem_cons_zero, Act.put, List.setIfInBounds_toArray, List.set_cons_succ, List.set_cons_zero])) | (guard_target =~ wpTreeC _ _ _ (Tr.both _ _) _ _ _; refine treeC_both ?_ ?_) | (guard_target =~ wpTreeC _ _ _ (Tr.e _ _) _ _ _; first | (refine treeC_one H rfl rfl (fun w3 H2 K hK => ?_); clear H; (try clear w2); (revert w3; intro w2 H); simp only [List.getElem_toArray, List.getElem_cons_succ, List.getElem_cons_zero]; first | ((first | fail); simp only [Act.put, List.setIfInBounds_toArray, List.set_cons_succ, List.set_cons_zero]) | (go_big_op; (refine hK _ _ ⟨_, H, by repeat first | exact .here | apply Suf.there⟩ ?_; clear hK K; (try simp only [Act.put, List.setIfInBounds_toArray, List.set_cons_succ, List.set_cons_zero])))) | (refine treeC_one_skip (fun w3 hx => ⟨_, H.ext hx, by repeat first | exact .here | apply Suf.there⟩) rfl rfl (fun w3 hx => ?_); replace H := H.ext hx; clear hx; (try clear w2); revert w3; intro w2 H; simp only [List.getElem_toArray, List.getElem_cons_succ, List.getElem_cons_zero, Act.put, List.setIfInBounds_toArray, List.set_cons_succ, List.set_cons_zero])) | (guard_target =~ wpTreeC _ _ _ Tr.nil _ _ _; refine treeC_nil H (fun w3 H2 => ?_); clear H; (try clear w2); revert w3; intro w2 H)))
      go_roundg k'
      case rel => exact ⟨nd', m', HND.out, HD.out, (H.sub (by repeat first | exact List.Sublist.refl _ | apply List.Sublist.cons_cons | apply List.Sublist.cons))⟩
      case measure => omega
    | @lnU n2 m' k' d r2 h hk hx hm hd' =>
      rw [hnd] at h
      injection h with h
      subst h
      simp only at hk hx hm
      subst hk hm
      obtain ⟨nd', hnd'⟩ := hd'.node
      have hp := n_grow (n := N.length) (b := dn) (c := cn) hnd'
      simp only [nd6] at hp
      have hml : m' < N.length := (List.getElem?_eq_some_iff.1 hnd').1
      obtain ⟨⟨⟨ax, ay⟩, ⟨sx, sy⟩⟩, hs0⟩ : ∃ s, (getA S id).getD zSg = s := ⟨_, rfl⟩
      have h3 := fun w => geomTurn_any ax ay sx sy x y w
      unfold sgOf at hx
      rw [hs0] at hx
      simp only at hx
      rw [hx] at h3
      have HD := Lib.hid hd'
      have HND := Lib.hid hnd'
      clear hd' hnd' hnd hx
      have tk0 : True := trivial
      go_wp2_with (first
        | (go_at_call 70; (with_reducible refine (h3 _).mono ?_); rintro e w3 ⟨rfl, hb⟩; replace H := H.ext hb; clear hb; dsimp only; (skip))
        | (guard_target =~ Code.wp _ (Code.region 15 _ true) _ _ _; refine region_treeC0 15 (G := True) (.q 0 (.q 1 (.q 2 (.q 3 (.q 4 (.q 5 (.q 6 (.e 7 (.e 8 .nil))))))))) (by kernel_rfl) (by intro c a d v w h; cases d <;> first | exact h | exact hQ h) (by kernel_rfl) H ⟨trivial⟩ (fun _ w3 H2 => ?_); (clear H; (try clear w2); revert w3; intro w2 H))
        | (guard_target =~ Code.wp _ (Code.region 19 _ true) _ _ _; refine region_treeC0 19 (G := True) (.q 0 (.q 4 (.q 5 (.e 1 (.q 2 (.q 3 (.q 6 (.q 7 (.e 8 .nil))))))))) (by kernel_rfl) (by intro c a d v w h; cases d <;> first | exact h | exact hQ h) (by kernel_rfl) H ⟨trivial⟩ (fun _ w3 H2 => ?_); (clear H; (try clear w2); revert w3; intro w2 H))
        | (guard_target =~ wpList _ _ _ (_ :: _) _ _; (guard_target =~ wpList _ _ _ (Oper.mk _ (.load _ _) _ _ _ _ :: _) _ _; refine BigFrame.wpList_want rfl (fun K hK => ?_); (first | (refine o_loadSa (t0 := ?_) (t1 := ?_) (t2 := ?_) (t3 := ?_) rfl rfl H ?_ ?_ ?_ (hK _ _ ?_); rotate_left 4; (repeat first | exact .head _ | apply List.Mem.tail); (focus (intro _; simp [hs0]; done)); (focus (intro _; simp [hs0]; done))) | (refine o_loadSb (t0 := ?_) (t1 := ?_) (t2 := ?_) (t3 := ?_) rfl rfl H ?_ ?_ ?_ (hK _ _ ?_); rotate_left 4; (repeat first | exact .head _ | apply List.Mem.tail); (focus (intro _; simp [hs0]; done)); (focus (intro _; simp [hs0]; done))) | (refine o_loadC (v := ?_) (row := ?_) rfl rfl H ?_ ?_ ?_ (hK _ _ ?_); rotate_left 2; (repeat first | exact .head _ | apply List.Mem.tail); (exact rfl); (focus (intro _; simp [hs0]; done))) | (refine o_loadNC (row := ?_) rfl rfl H ?_ ?_ ?_ (hK _ _ ?_); rotate_left 1; (repeat first | exact .head _ | apply List.Mem.tail); (focus (intro _; simp [hs0]; done)); (focus (intro _; simp [hs0]; done)))); clear hK K); simp only [Act.put, List.setIfInBounds_toArray, List.set_cons_succ, List.set_cons_zero, hs0])
        | (guard_target =~ wpTreeC _ _ _ _ _ _ _; first | (guard_target =~ wpTreeC _ _ _ (Tr.e _ Tr.nil) _ _ _; refine treeC_last (by decide +kernel) H rfl rfl (fun w3 H2 K hK => ?_); clear H; (try clear w2); (revert w3; intro w2 H); simp only [List.getElem_toArray, List.getElem_cons_succ, List.getElem_cons_zero]; (guard_target =~ Oper.wp _ (Oper.mk _ (.store _ _ _) _ _ _ _) _ _ _ _; refine o_store (l' := ?_) (row := ?_) rfl rfl H rfl ?_ ?_ ?_ ?_ (fun w3 H2 => hK _ _ ?_); rotate_left 2; (first | exact r0 | exact r1); (focus (intro _; (simp [Act.eval, Value.cells, List.getD, hs0]; done))); (focus (simp [Act.eval, Value.cells, List.getD, hs0]; done)); (exact rfl); clear hK K; clear H; (try clear w2); revert w3; intro w2 H; (try simp [Act.eval, List.getD, hs0] at H); (try simp [Value.cells, setL, hs0] at H)); simp only [Act.put, List.setIfInBounds_toArray, List.set_cons_succ, List.set_cons_zero, hs0]) | (guard_target =~ wpTreeC _ _ _ (Tr.q _ _) _ _ _; first | (refine treeC_quiet ⟨_, H, by repeat first | exact .here | apply Suf.there⟩ rfl rfl rfl (fun K hK => ?_); simp only [List.getElem_toArray, List.getElem_cons_succ, List.getElem_cons_zero]; first | (guard_target =~ Oper.quiet _ (Oper.mk _ (.lookup _ _ _ false) _ _ _ _) _ _ _; refine q_segGet (m := ?_) rfl rfl rfl ?_ (hK _ ?_); rotate_left 1; (repeat first | exact .head _ | apply List.Mem.tail); clear hK K; simp only [Act.put, List.setIfInBounds_toArray, List.set_cons_succ, List.set_cons_zero, hs0]) | (guard_target =~ Oper.quiet _ (Oper.mk _ (.lookup _ _ _ true) _ _ _ _) _ _ _; refine q_segOk (m := ?_) rfl rfl rfl ?_ (hK _ ?_); rotate_left 1; (repeat first | exact .head _ | apply List.Mem.tail); clear hK K; simp only [Act.put, List.setIfInBounds_toArray, List.set_cons_succ, List.set_cons_zero, hs0]) | (guard_target =~ Oper.quiet _ (Oper.mk _ (.load _ _) _ _ _ _) _ _ _; (first | (refine q_loadC (v := ?_) (row := ?_) rfl rfl ?_ ?_ ?_ (hK _ ?_); rotate_left 2; (repeat first | exact .head _ | apply List.Mem.tail); (exact rfl); (focus (intro _; simp [hs0]; done))) | (refine q_loadN (cs := ?_) (r := ?_) rfl rfl ?_ ?_ ?_ ?_ (hK _ ?_); rotate_left 2; (with_reducible assumption); (repeat first | exact .head _ | apply List.Mem.tail); (focus (intro _; simp [hs0]; done)); (focus (intro _; simp [hs0]; done)))); clear hK K; simp only [Act.put, List.setIfInBounds_toArray, List.set_cons_succ, List.set_cons_zero, hs0]) | (go_big_quiet_op; (try refine ⟨_, fun _ _ => rfl, ?_⟩); refine hK _ ?_; clear hK K)) | (refine treeC_call (v := ?_) ⟨_, H, by repeat first | exact .here | apply Suf.there⟩ rfl rfl (fun w3 H K hK => ?_) ?_; rotate_left 1; (focus (simp only [List.getElem_toArray, List.getElem_cons_succ, List.getElem_cons_zero]; first | (refine o_segLen (m := ?_) rfl H ?_ ?_; rotate_left 1; (repeat first | exact .head _ | apply List.Mem.tail); exact hK _ (Ext.refl _)) | (go_big_op; first | exact hK _ (Ext.refl _) | (go_at_call 70; (with_reducible refine (h3 _).mono ?_); rintro e w3 ⟨rfl, hb⟩; dsimp only; first | exact hK _ hb | exact hK _ (Ext.refl _))))); simp only [List.getElem_toArray, List.getElem_cons_succ, List.getElem_cons_zero, Act.put, List.setIfInBounds_toArray, List.set_cons_succ, List.set_cons_zero, hs0]) | (refine treeC_skip ⟨_, H, by repeat first | exact .here | apply Suf.there⟩ rfl rfl ?_; simp only [List.getElem_toArray, List.getElem_cons_succ, List.getElem_cons_zero, Act.put, List.setIfInBounds_toArray, List.set_cons_succ, List.set_cons_zero, hs0])) | (guard_target =~ wpTreeC _ _ _ (Tr.both _ _) _ _ _; refine treeC_both ?_ ?_) | (guard_target =~ wpTreeC _ _ _ (Tr.e _ _) _ _ _; first | (refine treeC_one H rfl rfl (fun w3 H2 K hK => ?_); clear H; (try clear w2); (revert w3; intro w2 H); simp only [List.getElem_toArray, List.getElem_cons_succ, List.getElem_cons_zero]; first | (((guard_target =~ Oper.wp _ (Oper.mk _ (.alloc _) _ _ _ _) _ _ _ _; refine o_alloc (z := ?_) rfl ?_ H rfl (fun w3 b2 he H2 => hK _ _ ⟨_, H2, ?_⟩ ?_); rotate_left 1; (focus (intro _; simp; with_reducible exact rfl))); (guard_target =~ Suf _ _; repeat first | exact .here | apply Suf.there); clear hK K he; clear H; (try clear w2); revert w3; intro w2 H; (try simp [Act.eval, List.getD, hs0] at H); (try simp [Value.cells, setL, hs0] at H); (clear tk0; rename Nat => b7)); simp only [Act.put, List.setIfInBounds_toArray, List.set_cons_succ, List.set_cons_zero, hs0]) | (go_big_op; (refine hK _ _ ⟨_, H, by repeat first | exact .here | apply Suf.there⟩ ?_; clear hK K; (try simp only [Act.put, List.setIfInBounds_toArray, List.set_cons_succ, List.set_cons_zero, hs0])))) | (refine treeC_one_skip (fun w3 hx => ⟨_, H.ext hx, by repeat first | exact .here | apply Suf.there⟩) rfl rfl (fun w3 hx => ?_); replace H := H.ext hx; clear hx; (try clear w2); revert w3; intro w2 H; simp only [List.getElem_toArray, List.getElem_cons_succ, List.getElem_cons_zero, Act.put, List.setIfInBounds_toArray, List.set_cons_succ, List.set_cons_zero, hs0])) | (guard_target =~ wpTreeC _ _ _ Tr.nil _ _ _; refine treeC_nil H (fun w3 H2 => ?_); clear H; (try clear w2); revert w3; intro w2 H)))
      go_roundg k'
      case rel => exact ⟨nd', m', HND.out, HD.out, (H.sub (by repeat first | exact List.Sublist.refl _ | apply List.Sublist.cons_cons | apply List.Sublist.cons))⟩
      case measure => omega
    | @lnD n2 m' k' d r2 h hk hx hm hd' =>
      rw [hnd] at h
      injection h with h
      subst h
      simp only at hk hx hm
      subst hk hm
      obtain ⟨nd', hnd'⟩ := hd'.node
      have hp := n_grow (n := N.length) (b := dn) (c := cn) hnd'
      simp only [nd6] at hp
      have hml : m' < N.length := (List.getElem?_eq_some_iff.1 hnd').1
      obtain ⟨⟨⟨ax, ay⟩, ⟨sx, sy⟩⟩, hs0⟩ : ∃ s, (getA S id).getD zSg = s := ⟨_, rfl⟩
      have h3 := fun w => geomTurn_any ax ay sx sy x y w
      unfold sgOf at hx
      rw [hs0] at hx
      simp only at hx
      rw [hx] at h3
      have HD := Lib.hid hd'
      have HND := Lib.hid hnd'
      clear hd' hnd' hnd hx
      have tk0 : True := trivial
      go_wp2_with (first
        | (go_at_call 70; (with_reducible refine (h3 _).mono ?_); rintro e w3 ⟨rfl, hb⟩; replace H := H.ext hb; clear hb; dsimp only; (skip))
        | (guard_target =~ Code.wp _ (Code.region 15 _ true) _ _ _; refine region_treeC0 15 (G := True) (.q 0 (.q 1 (.q 2 (.q 3 (.q 4 (.q 5 (.q 6 (.e 7 (.e 8 .nil))))))))) (by kernel_rfl) (by intro c a d v w h; cases d <;> first | exact h | exact hQ h) (by kernel_rfl) H ⟨trivial⟩ (fun _ w3 H2 => ?_); (clear H; (try clear w2); revert w3; intro w2 H))
        | (guard_target =~ Code.wp _ (Code.region 21 _ true) _ _ _; refine region_treeC0 21 (G := True) (.q 0 (.q 4 (.q 5 (.e 1 (.q 2 (.q 3 (.q 6 (.q 7 (.e 8 .nil))))))))) (by kernel_rfl) (by intro c a d v w h; cases d <;> first | exact h | exact hQ h) (by kernel_rfl) H ⟨trivial⟩ (fun _ w3 H2 => ?_); (clear H; (try clear w2); revert w3; intro w2 H))
        | (guard_target =~ wpList _ _ _ (_ :: _) _ _; (guard_target =~ wpList _ _ _ (Oper.mk _ (.load _ _) _ _ _ _ :: _) _ _; refine BigFrame.wpList_want rfl (fun K hK => ?_); (first | (refine o_loadSa (t0 := ?_) (t1 := ?_) (t2 := ?_) (t3 := ?_) rfl rfl H ?_ ?_ ?_ (hK _ _ ?_); rotate_left 4; (repeat first | exact .head _ | apply List.Mem.tail); (focus (intro _; simp [hs0]; done)); (focus (intro _; simp [hs0]; done))) | (refine o_loadSb (t0 := ?_) (t1 := ?_) (t2 := ?_) (t3 := ?_) rfl rfl H ?_ ?_ ?_ (hK _ _ ?_); rotate_left 4; (repeat first | exact .head _ | apply List.Mem.tail); (focus (intro _; simp [hs0]; done)); (focus (intro _; simp [hs0]; done))) | (refine o_loadC (v := ?_) (row := ?_) rfl rfl H ?_ ?_ ?_ (hK _ _ ?_); rotate_left 2; (repeat first | exact .head _ | apply List.Mem.tail); (exact rfl); (focus (intro _; simp [hs0]; done))) | (refine o_loadNC (row := ?_) rfl rfl H ?_ ?_ ?_ (hK _ _ ?_); rotate_left 1; (repeat first | exact .head _ | apply List.Mem.tail); (focus (intro _; simp [hs0]; done)); (focus (intro _; simp [hs0]; done)))); clear hK K); simp only [Act.put, List.setIfInBounds_toArray, List.set_cons_succ, List.set_cons_zero, hs0])
        | (guard_target =~ wpTreeC _ _ _ _ _ _ _; first | (guard_target =~ wpTreeC _ _ _ (Tr.e _ Tr.nil) _ _ _; refine treeC_last (by decide +kernel) H rfl rfl (fun w3 H2 K hK => ?_); clear H; (try clear w2); (revert w3; intro w2 H); simp only [List.getElem_toArray, List.getElem_cons_succ, List.getElem_cons_zero]; (guard_target =~ Oper.wp _ (Oper.mk _ (.store _ _ _) _ _ _ _) _ _ _ _; refine o_store (l' := ?_) (row := ?_) rfl rfl H rfl ?_ ?_ ?_ ?_ (fun w3 H2 => hK _ _ ?_); rotate_left 2; (first | exact r0 | exact r1); (focus (intro _; (simp [Act.eval, Value.cells, List.getD, hs0]; done))); (focus (simp [Act.eval, Value.cells, List.getD, hs0]; done)); (exact rfl); clear hK K; clear H; (try clear w2); revert w3; intro w2 H; (try simp [Act.eval, List.getD, hs0] at H); (try simp [Value.cells, setL, hs0] at H)); simp only [Act.put, List.setIfInBounds_toArray, List.set_cons_succ, List.set_cons_zero, hs0]) | (guard_target =~ wpTreeC _ _ _ (Tr.q _ _) _ _ _; first | (refine treeC_quiet ⟨_, H, by repeat first | exact .here | apply Suf.there⟩ rfl rfl rfl (fun K hK => ?_); simp only [List.getElem_toArray, List.getElem_cons_succ, List.getElem_cons_zero]; first | (guard_target =~ Oper.quiet _ (Oper.mk _ (.lookup _ _ _ false) _ _ _ _) _ _ _; refine q_segGet (m := ?_) rfl rfl rfl ?_ (hK _ ?_); rotate_left 1; (repeat first | exact .head _ | apply List.Mem.tail); clear hK K; simp only [Act.put, List.setIfInBounds_toArray, List.set_cons_succ, List.set_cons_zero, hs0]) | (guard_target =~ Oper.quiet _ (Oper.mk _ (.lookup _ _ _ true) _ _ _ _) _ _ _; refine q_segOk (m := ?_) rfl rfl rfl ?_ (hK _ ?_); rotate_left 1; (repeat first | exact .head _ | apply List.Mem.tail); clear hK K; simp only [Act.put, List.setIfInBounds_toArray, List.set_cons_succ, List.set_cons_zero, hs0]) | (guard_target =~ Oper.quiet _ (Oper.mk _ (.load _ _) _ _ _ _) _ _ _; (first | (refine q_loadC (v := ?_) (row := ?_) rfl rfl ?_ ?_ ?_ (hK _ ?_); rotate_left 2; (repeat first | exact .head _ | apply List.Mem.tail); (exact rfl); (focus (intro _; simp [hs0]; done))) | (refine q_loadN (cs := ?_) (r := ?_) rfl rfl ?_ ?_ ?_ ?_ (hK _ ?_); rotate_left 2; (with_reducible assumption); (repeat first | exact .head _ | apply List.Mem.tail); (focus (intro _; simp [hs0]; done)); (focus (intro _; simp [hs0]; done)))); clear hK K; simp only [Act.put, List.setIfInBounds_toArray, List.set_cons_succ, List.set_cons_zero, hs0]) | (go_big_quiet_op; (try refine ⟨_, fun _ _ => rfl, ?_⟩); refine hK _ ?_; clear hK K)) | (refine treeC_call (v := ?_) ⟨_, H, by repeat first | exact .here | apply Suf.there⟩ rfl rfl (fun w3 H K hK => ?_) ?_; rotate_left 1; (focus (simp only [List.getElem_toArray, List.getElem_cons_succ, List.getElem_cons_zero]; first | (refine o_segLen (m := ?_) rfl H ?_ ?_; rotate_left 1; (repeat first | exact .head _ | apply List.Mem.tail); exact hK _ (Ext.refl _)) | (go_big_op; first | exact hK _ (Ext.refl _) | (go_at_call 70; (with_reducible refine (h3 _).mono ?_); rintro e w3 ⟨rfl, hb⟩; dsimp only; first | exact hK _ hb | exact hK _ (Ext.refl _))))); simp only [List.getElem_toArray, List.getElem_cons_succ, List.getElem_cons_zero, Act.put, List.setIfInBounds_toArray, List.set_cons_succ, List.set_cons_zero, hs0]) | (refine treeC_skip ⟨_, H, by repeat first | exact .here | apply Suf.there⟩ rfl rfl ?_; simp only [List.getElem_toArray, List.getElem_cons_succ, List.getElem_cons_zero, Act.put, List.setIfInBounds_toArray, List.set_cons_succ, List.set_cons_zero, hs0])) | (guard_target =~ wpTreeC _ _ _ (Tr.both _ _) _ _ _; refine treeC_both ?_ ?_) | (guard_target =~ wpTreeC _ _ _ (Tr.e _ _) _ _ _; first | (refine treeC_one H rfl rfl (fun w3 H2 K hK => ?_); clear H; (try clear w2); (revert w3; intro w2 H); simp only [List.getElem_toArray, List.getElem_cons_succ, List.getElem_cons_zero]; first | (((guard_target =~ Oper.wp _ (Oper.mk _ (.alloc _) _ _ _ _) _ _ _ _; refine o_alloc (z := ?_) rfl ?_ H rfl (fun w3 b2 he H2 => hK _ _ ⟨_, H2, ?_⟩ ?_); rotate_left 1; (focus (intro _; simp; with_reducible exact rfl))); (guard_target =~ Suf _ _; repeat first | exact .here | apply Suf.there); clear hK K he; clear H; (try clear w2); revert w3; intro w2 H; (try simp [Act.eval, List.getD, hs0] at H); (try simp [Value.cells, setL, hs0] at H); (clear tk0; rename Nat => b7)); simp only [Act.put, List.setIfInBounds_toArray, List.set_cons_succ, List.set_cons_zero, hs0]) | (go_big_op; (refine hK _ _ ⟨_, H, by repeat first | exact .here | apply Suf.there⟩ ?_; clear hK K; (try simp only [Act.put, List.setIfInBounds_toArray, List.set_cons_succ, List.set_cons_zero, hs0])))) | (refine treeC_one_skip (fun w3 hx => ⟨_, H.ext hx, by repeat first | exact .here | apply Suf.there⟩) rfl rfl (fun w3 hx => ?_); replace H := H.ext hx; clear hx; (try clear w2); revert w3; intro w2 H; simp only [List.getElem_toArray, List.getElem_cons_succ, List.getElem_cons_zero, Act.put, List.setIfInBounds_toArray, List.set_cons_succ, List.set_cons_zero, hs0])) | (guard_target =~ wpTreeC _ _ _ Tr.nil _ _ _; refine treeC_nil H (fun w3 H2 => ?_); clear H; (try clear w2); revert w3; intro w2 H)))
      go_roundg k'
      case rel => exact ⟨nd', m', HND.out, HD.out, (H.sub (by repeat first | exact List.Sublist.refl _ | apply List.Sublist.cons_cons | apply List.Sublist.cons))⟩
      case measure => omega
    | @on n2 d h hk hx =>
      rw [hnd] at h
      injection h with h
      subst h
      simp only at hk hx
      subst hk
      obtain ⟨⟨⟨ax, ay⟩, ⟨sx, sy⟩⟩, hs0⟩ : ∃ s, (getA S id).getD zSg = s := ⟨_, rfl⟩
      have h3 := fun w => geomTurn_any ax ay sx sy x y w
      unfold sgOf at hx
      rw [hs0] at hx
      simp only at hx
      rw [hx] at h3
      clear hnd hx
      have tk0 : True := trivial
      go_wp2_with (first
        | (go_at_call 70; (with_reducible refine (h3 _).mono ?_); rintro e w3 ⟨rfl, hb⟩; replace H := H.ext hb; clear hb; dsimp only; (skip))
        | (guard_target =~ Code.wp _ (Code.region 15 _ true) _ _ _; refine region_treeC0 15 (G := True) (.q 0 (.q 1 (.q 2 (.q 3 (.q 4 (.q 5 (.q 6 (.e 7 (.e 8 .nil))))))))) (by kernel_rfl) (by intro c a d v w h; cases d <;> first | exact h | exact hQ h) (by kernel_rfl) H ⟨trivial⟩ (fun _ w3 H2 => ?_); (clear H; (try clear w2); revert w3; intro w2 H))
        | (guard_target =~ wpList _ _ _ (_ :: _) _ _; (first | (guard_target =~ wpList _ _ _ (Oper.mk _ (.load _ _) _ _ _ _ :: _) _ _; refine BigFrame.wpList_want rfl (fun K hK => ?_); (first | (refine o_loadSa (t0 := ?_) (t1 := ?_) (t2 := ?_) (t3 := ?_) rfl rfl H ?_ ?_ ?_ (hK _ _ ?_); rotate_left 4; (repeat first | exact .head _ | apply List.Mem.tail); (focus (intro _; simp [hs0]; done)); (focus (intro _; simp [hs0]; done))) | (refine o_loadSb (t0 := ?_) (t1 := ?_) (t2 := ?_) (t3 := ?_) rfl rfl H ?_ ?_ ?_ (hK _ _ ?_); rotate_left 4; (repeat first | exact .head _ | apply List.Mem.tail); (focus (intro _; simp [hs0]; done)); (focus (intro _; simp [hs0]; done))) | (refine o_loadC (v := ?_) (row := ?_) rfl rfl H ?_ ?_ ?_ (hK _ _ ?_); rotate_left 2; (repeat first | exact .head _ | apply List.Mem.tail); (exact rfl); (focus (intro _; simp [hs0]; done))) | (refine o_loadNC (row := ?_) rfl rfl H ?_ ?_ ?_ (hK _ _ ?_); rotate_left 1; (repeat first | exact .head _ | apply List.Mem.tail); (focus (intro _; simp [hs0]; done)); (focus (intro _; simp [hs0]; done)))); clear hK K) | (guard_target =~ wpList _ _ _ (Oper.mk _ (.store _ _ _) _ _ _ _ :: _) _ _; refine BigFrame.wpList_want rfl (fun K hK => ?_); refine o_store (l' := ?_) (row := ?_) rfl rfl H rfl ?_ ?_ ?_ ?_ (fun w3 H2 => hK _ _ ?_); rotate_left 2; (exact r2); (focus (intro _; (simp [Act.eval, Value.cells, List.getD, hs0]; done))); (focus (simp [Act.eval, Value.cells, List.getD, hs0]; done)); (exact rfl); clear hK K; clear H; (try clear w2); revert w3; intro w2 H; (try simp [Act.eval, List.getD, hs0] at H); (try simp [Value.cells, setL, hs0] at H))); simp only [Act.put, List.setIfInBounds_toArray, List.set_cons_succ, List.set_cons_zero, hs0])
        | (guard_target =~ wpTreeC _ _ _ _ _ _ _; first | (guard_target =~ wpTreeC _ _ _ (Tr.e _ Tr.nil) _ _ _; refine treeC_last (by decide +kernel) H rfl rfl (fun w3 H2 K hK => ?_); clear H; (try clear w2); (revert w3; intro w2 H); simp only [List.getElem_toArray, List.getElem_cons_succ, List.getElem_cons_zero]; (guard_target =~ Oper.wp _ (Oper.mk _ (.store _ _ _) _ _ _ _) _ _ _ _; refine o_store (l' := ?_) (row := ?_) rfl rfl H rfl ?_ ?_ ?_ ?_ (fun w3 H2 => hK _ _ ?_); rotate_left 2; (exact r0); (focus (intro _; (simp [Act.eval, Value.cells, List.getD, hs0]; done))); (focus (simp [Act.eval, Value.cells, List.getD, hs0]; done)); (exact rfl); clear hK K; clear H; (try clear w2); revert w3; intro w2 H; (try simp [Act.eval, List.getD, hs0] at H); (try simp [Value.cells, setL, hs0] at H)); simp only [Act.put, List.setIfInBounds_toArray, List.set_cons_succ, List.set_cons_zero, hs0]) | (guard_target =~ wpTreeC _ _ _ (Tr.q _ _) _ _ _; first | (refine treeC_quiet ⟨_, H, by repeat first | exact .here | apply Suf.there⟩ rfl rfl rfl (fun K hK => ?_); simp only [List.getElem_toArray, List.getElem_cons_succ, List.getElem_cons_zero]; first | (guard_target =~ Oper.quiet _ (Oper.mk _ (.lookup _ _ _ false) _ _ _ _) _ _ _; refine q_segGet (m := ?_) rfl rfl rfl ?_ (hK _ ?_); rotate_left 1; (repeat first | exact .head _ | apply List.Mem.tail); clear hK K; simp only [Act.put, List.setIfInBounds_toArray, List.set_cons_succ, List.set_cons_zero, hs0]) | (guard_target =~ Oper.quiet _ (Oper.mk _ (.lookup _ _ _ true) _ _ _ _) _ _ _; refine q_segOk (m := ?_) rfl rfl rfl ?_ (hK _ ?_); rotate_left 1; (repeat first | exact .head _ | apply List.Mem.tail); clear hK K; simp only [Act.put, List.setIfInBounds_toArray, List.set_cons_succ, List.set_cons_zero, hs0]) | (guard_target =~ Oper.quiet _ (Oper.mk _ (.load _ _) _ _ _ _) _ _ _; (refine q_loadC (v := ?_) (row := ?_) rfl rfl ?_ ?_ ?_ (hK _ ?_); rotate_left 2; (repeat first | exact .head _ | apply List.Mem.tail); (exact rfl); (focus (intro _; simp [hs0]; done))); clear hK K; simp only [Act.put, List.setIfInBounds_toArray, List.set_cons_succ, List.set_cons_zero, hs0]) | (go_big_quiet_op; (try refine ⟨_, fun _ _ => rfl, ?_⟩); refine hK _ ?_; clear hK K)) | (refine treeC_call (v := ?_) ⟨_, H, by repeat first | exact .here | apply Suf.there⟩ rfl rfl (fun w3 H K hK => ?_) ?_; rotate_left 1; (focus (simp only [List.getElem_toArray, List.getElem_cons_succ, List.getElem_cons_zero]; first | (refine o_segLen (m := ?_) rfl H ?_ ?_; rotate_left 1; (repeat first | exact .head _ | apply List.Mem.tail); exact hK _ (Ext.refl _)) | (go_big_op; first | exact hK _ (Ext.refl _) | (go_at_call 70; (with_reducible refine (h3 _).mono ?_); rintro e w3 ⟨rfl, hb⟩; dsimp only; first | exact hK _ hb | exact hK _ (Ext.refl _))))); simp only [List.getElem_toArray, List.getElem_cons_succ, List.getElem_cons_zero, Act.put, List.setIfInBounds_toArray, List.set_cons_succ, List.set_cons_zero, hs0]) | (refine treeC_skip ⟨_, H, by repeat first | exact .here | apply Suf.there⟩ rfl rfl ?_; simp only [List.getElem_toArray, List.getElem_cons_succ, List.getElem_cons_zero, Act.put, List.setIfInBounds_toArray, List.set_cons_succ, List.set_cons_zero, hs0])) | (guard_target =~ wpTreeC _ _ _ (Tr.both _ _) _ _ _; refine treeC_both ?_ ?_) | (guard_target =~ wpTreeC _ _ _ (Tr.e _ _) _ _ _; first | (refine treeC_one H rfl rfl (fun w3 H2 K hK => ?_); clear H; (try clear w2); (revert w3; intro w2 H); simp only [List.getElem_toArray, List.getElem_cons_succ, List.getElem_cons_zero]; first | (((guard_target =~ Oper.wp _ (Oper.mk _ (.alloc _) _ _ _ _) _ _ _ _; refine o_alloc (z := ?_) rfl ?_ H rfl (fun w3 b2 he H2 => hK _ _ ⟨_, H2, ?_⟩ ?_); rotate_left 1; (focus (intro _; simp; with_reducible exact rfl))); (guard_target =~ Suf _ _; repeat first | exact .here | apply Suf.there); clear hK K he; clear H; (try clear w2); revert w3; intro w2 H; (try simp [Act.eval, List.getD, hs0] at H); (try simp [Value.cells, setL, hs0] at H); (clear tk0; rename Nat => b7)); simp only [Act.put, List.setIfInBounds_toArray, List.set_cons_succ, List.set_cons_zero, hs0]) | (go_big_op; (first | fail))) | (refine treeC_one_skip (fun w3 hx => ⟨_, H.ext hx, by repeat first | exact .here | apply Suf.there⟩) rfl rfl (fun w3 hx => ?_); replace H := H.ext hx; clear hx; (try clear w2); revert w3; intro w2 H; simp only [List.getElem_toArray, List.getElem_cons_succ, List.getElem_cons_zero, Act.put, List.setIfInBounds_toArray, List.set_cons_succ, List.set_cons_zero, hs0])) | (guard_target =~ wpTreeC _ _ _ Tr.nil _ _ _; refine treeC_nil H (fun w3 H2 => ?_); clear H; (try clear w2); revert w3; intro w2 H)))
      have hr := H.loadVarN (P := Try.prog) (ty := 69) (b := b2) (by exact m2) (by simp) (by simp)
      (try rw [Exit.noGoto_ret])
      exact bodyPost_ret (v := .tuple #[spV id 0, .int .i64 0]) (by simp [results, Try.results41, asAddr, hr]) rfl ⟨rfl, (H.sub (by repeat first | exact List.Sublist.refl _ | apply List.Sublist.cons_cons | apply List.Sublist.cons))⟩
end Go.Proofs.Ytlhmjhildlnokaa

/-
  The order of all trapezes.
-/
namespace Go.Proofs.Ytlhmjhildlnokaa
set_option linter.unusedVariables false
set_option linter.unusedSimpArgs false
open Go.RowKit Go.Sort Go.Shelf
/-! ### All trapezes, in order -/
def allZ (a b : Tz) : Int := orZ [leftsZ a b, cmpZ a.bot b.bot, cmpZ a.top b.top]
theorem or3 (a b c : Int) : orZ [a, b, c] = if a ≠ 0 then a else if b ≠ 0 then b else c := by
  by_cases h1 : a = 0 <;> by_cases h2 : b = 0 <;> by_cases h3 : c = 0 <;> simp [orZ, h1, h2, h3]
theorem cmp_cases (a b : Int) : (a < b ∧ cmpZ a b = -1) ∨ (a = b ∧ cmpZ a b = 0) ∨ (b < a ∧ cmpZ a b = 1) := by
  unfold cmpZ
  rcases Int.lt_trichotomy a b with h | h | h
  · left; exact ⟨h, by rw [if_pos h]⟩
  · right; left; exact ⟨h, by rw [if_neg (by omega), if_neg (by omega)]⟩
  · right; right; exact ⟨h, by rw [if_neg (by omega), if_pos h]⟩
theorem lefts_neg (a b : Tz) : leftsZ a b < 0 ↔ ltT a b = true := by unfold ltT; rw [decide_eq_true_eq]
theorem lefts_pos (a b : Tz) : 0 < leftsZ a b ↔ leftsZ b a < 0 := by
  have asy : ∀ p q : Pt, lessB p q = true → lessB q p = false := fun p q h => by
    have h1 : LessP p q := of_decide_eq_true h
    refine decide_eq_false fun h2 => ?_
    unfold LessP at h1 h2
    omega
  unfold leftsZ
  cases ha : a.hl <;> cases hb : b.hl <;> simp
  cases h1 : lessB a.l b.l <;> cases h2 : lessB b.l a.l <;> simp
  have := asy _ _ h1
  rw [h2] at this; cases this
theorem lefts_zero {a b : Tz} : leftsZ a b = 0 ↔ a.hl = b.hl ∧ (a.hl = true → a.l = b.l) := by
  have tri : ∀ p q : Pt, lessB p q = false → lessB q p = false → p = q := fun p q h1 h2 => by
    obtain ⟨x, y⟩ := p
    obtain ⟨u, v⟩ := q
    have g1 : ¬ LessP ⟨x, y⟩ ⟨u, v⟩ := of_decide_eq_false h1
    have g2 : ¬ LessP ⟨u, v⟩ ⟨x, y⟩ := of_decide_eq_false h2
    unfold LessP at g1 g2
    simp only at g1 g2
    have : x = u := by omega
    have : y = v := by omega
    simp [*]
  have irr : ∀ p : Pt, lessB p p = false := lessB_swo.1
  unfold leftsZ
  cases ha : a.hl <;> cases hb : b.hl <;> simp
  constructor
  · intro h
    cases h1 : lessB a.l b.l
    · cases h2 : lessB b.l a.l
      · exact tri _ _ h1 h2
      · rw [h1, h2] at h; simp at h
    · rw [h1] at h; simp at h
  · intro h
    rw [h, irr]; simp
def ltA (a b : Tz) : Bool := decide (allZ a b < 0)
theorem ltA_iff (a b : Tz) : ltA a b = true ↔ ltT a b = true ∨ (leftsZ a b = 0 ∧ (a.bot < b.bot ∨ a.bot = b.bot ∧ a.top < b.top)) := by
  unfold ltA allZ
  rw [decide_eq_true_eq, or3, ← lefts_neg]
  rcases cmp_cases a.bot b.bot with ⟨h1, k1⟩ | ⟨h1, k1⟩ | ⟨h1, k1⟩ <;> rcases cmp_cases a.top b.top with ⟨h2, k2⟩ | ⟨h2, k2⟩ | ⟨h2, k2⟩ <;> rw [k1, k2] <;> by_cases h0 : leftsZ a b = 0
  all_goals first
    | (rw [if_neg (by simpa using h0)]; simp <;> omega)
    | (rw [if_pos h0]; simp [h0])
theorem eqL_iff (a b : Tz) : leftsZ a b = 0 ↔ ltT a b = false ∧ ltT b a = false := by
  have h1 := lefts_neg a b
  have h2 := lefts_neg b a
  have h3 := lefts_pos a b
  constructor
  · intro h
    constructor
    · cases e : ltT a b
      · rfl
      · have := h1.2 e; omega
    · cases e : ltT b a
      · rfl
      · have := h3.2 (h2.2 e); omega
  · rintro ⟨g1, g2⟩
    have n1 : ¬ leftsZ a b < 0 := fun q => by rw [h1.1 q] at g1; cases g1
    have n2 : ¬ 0 < leftsZ a b := fun q => by rw [h2.1 (h3.1 q)] at g2; cases g2
    omega
theorem ltA_swo : (∀ s : Tz, ltA s s = false) ∧ (∀ s t u : Tz, ltA s t = true → ltA t u = true → ltA s u = true) ∧ (∀ s t u : Tz, ltA s t = false → ltA t u = false → ltA s u = false) := by
  obtain ⟨t1, t2, t3⟩ := ltT_swo
  have bf : ∀ {b : Bool}, ¬ b = true → b = false := fun {b} h => by cases b; rfl; exact absurd rfl h
  have bt : ∀ {b : Bool}, b = false → ¬ b = true := fun {b} h => by rw [h]; simp
  have t4 : ∀ a b, ltT a b = true → ltT b a = false := fun a b h => bf fun g => by have := t2 a b a h g; rw [t1] at this; cases this
  refine ⟨fun s => bf fun h => ?_, fun s t u h1 h2 => ?_, fun s t u h1 h2 => bf fun h => ?_⟩
  · rw [ltA_iff] at h
    rcases h with h | h
    · rw [t1] at h; cases h
    · omega
  · rw [ltA_iff] at h1 h2 ⊢
    rcases h1 with h1 | ⟨h1, h1'⟩ <;> rcases h2 with h2 | ⟨h2, h2'⟩
    · exact .inl (t2 _ _ _ h1 h2)
    · rw [eqL_iff] at h2
      refine .inl (Classical.byContradiction fun g => ?_)
      have := t3 _ _ _ (bf g) h2.2
      rw [h1] at this; cases this
    · rw [eqL_iff] at h1
      refine .inl (Classical.byContradiction fun g => ?_)
      have := t3 _ _ _ h1.2 (bf g)
      rw [h2] at this; cases this
    · rw [eqL_iff] at h1 h2
      refine .inr ⟨(eqL_iff _ _).2 ⟨t3 _ _ _ h1.1 h2.1, t3 _ _ _ h2.2 h1.2⟩, by omega⟩
  · have n1 : ¬ (ltT s t = true ∨ _) := fun g => bt h1 ((ltA_iff s t).2 g)
    have n2 : ¬ (ltT t u = true ∨ _) := fun g => bt h2 ((ltA_iff t u).2 g)
    rw [ltA_iff] at h
    simp only [not_or, not_and] at n1 n2
    obtain ⟨a1, a2⟩ := n1
    obtain ⟨b1, b2⟩ := n2
    have c1 := t3 _ _ _ (bf a1) (bf b1)
    rcases h with h | ⟨h, h'⟩
    · rw [c1] at h; cases h
    · rw [eqL_iff] at h
      have d1 : ltT t s = false := by
        cases g : ltT t s
        · rfl
        · -- t ahead of s, s level with u: t ahead of u
          have : ltT t u = true := Classical.byContradiction fun q => by
            have := t3 _ _ _ (bf q) h.2
            rw [g] at this; cases this
          rw [bf b1] at this; cases this
      have e1 := (eqL_iff s t).2 ⟨bf a1, d1⟩
      have d2 : ltT u t = false := bf fun g => by
        have : ltT u s = true := Classical.byContradiction fun q => by
          have := t3 _ _ _ (bf q) (bf a1); exact absurd g (bt this)
        rw [h.2] at this; cases this
      have e2 := (eqL_iff t u).2 ⟨bf b1, d2⟩
      have := a2 e1
      have := b2 e2
      omega
/-- The trapezes that are there. -/
def liveT (P : List Pc) : List Tz := (P.filter fun p => !p.g).map (·.t)
/-- The answer of All: those that are there, in order. -/
def AllP (P : List Pc) (l : List Tz) : Prop := l.Perm (liveT P) ∧ l.Pairwise fun a b => ltA b a = false
end Go.Proofs.Ytlhmjhildlnokaa

/-
  The walk of the index's All: the trapezes that are there, sorted.
-/
namespace Go.Proofs.Ytlhmjhildlnokaa
set_option linter.unusedVariables false
set_option linter.unusedSimpArgs false
open Go.RowKit Go.Sort Go.Shelf

set_option maxRecDepth 100000 in
set_option maxHeartbeats 8000000 in
theorem cmpA_any (s t : Tz) (w : World) : Calls Try.prog 65 #[tzV s, tzV t] w fun e w' => e = .returned (.int .i64 (allZ s t)) ∧ Below w.heap.size w w' := by
  obtain ⟨st, sb, shl, shr, ⟨slx, sly⟩, ⟨srx, sry⟩⟩ := s
  obtain ⟨tt, tb, thl, thr, ⟨tlx, tly⟩, ⟨trx, try_⟩⟩ := t
  simp only [tzV]
  have H := Own.start w
  have h1 := fun w => lefts_any ⟨st, sb, shl, shr, ⟨slx, sly⟩, ⟨srx, sry⟩⟩ ⟨tt, tb, thl, thr, ⟨tlx, tly⟩, ⟨trx, try_⟩⟩ w
  simp only [tzV] at h1
  have hz : allZ ⟨st, sb, shl, shr, ⟨slx, sly⟩, ⟨srx, sry⟩⟩ ⟨tt, tb, thl, thr, ⟨tlx, tly⟩, ⟨trx, try_⟩⟩ = orZ [leftsZ ⟨st, sb, shl, shr, ⟨slx, sly⟩, ⟨srx, sry⟩⟩ ⟨tt, tb, thl, thr, ⟨tlx, tly⟩, ⟨trx, try_⟩⟩, cmpZ sb tb, cmpZ st tt] := rfl
  generalize leftsZ ⟨st, sb, shl, shr, ⟨slx, sly⟩, ⟨srx, sry⟩⟩ ⟨tt, tb, thl, thr, ⟨tlx, tly⟩, ⟨trx, try_⟩⟩ = u0 at *
  have h2 := fun w => cmpCompare_any sb tb w
  have h3 := fun w => cmpCompare_any st tt w
  generalize cmpZ sb tb = u1 at *
  generalize cmpZ st tt = u2 at *
  have HZ := Lib.hid hz
  clear hz
  go_enter Try.func65, Try.ntmps65
  have tk0 : True := trivial
  have tk1 : True := trivial
  have tk2 : True := trivial
  go_wp2_with (first
    | (go_at_call 66; (with_reducible refine (cmpOr3 H).mono ?_); rintro e w3 ⟨rfl, hb⟩; replace H := H.ext hb; clear hb; dsimp only; (refine hK _ _ ⟨_, H, by repeat first | exact .here | apply Suf.there⟩ ?_; clear hK K; (try simp only [Act.put, List.setIfInBounds_toArray, List.set_cons_succ, List.set_cons_zero])))
    | (guard_target =~ Code.wp _ (Code.region 1 _ true) _ _ _; refine region_treeC0 1 (G := True) (.q 0 (.q 1 (.q 2 (.q 3 (.q 4 (.q 5 (.q 6 (.q 7 (.q 8 (.q 9 (.q 10 (.q 11 (.q 12 (.e 13 (.e 14 (.q 15 .nil)))))))))))))))) (by kernel_rfl) (by intro c a d v w h; cases d <;> first | exact h | exact hQ h) (by kernel_rfl) H ⟨trivial⟩ (fun _ w3 H2 => ?_); (clear H; (try clear w2); revert w3; intro w2 H))
    | (guard_target =~ wpList _ _ _ (_ :: _) _ _; ((guard_target =~ wpList _ _ _ (Oper.mk _ (.box _ _) _ _ _ _ :: _) _ _; refine BigFrame.wpList_want rfl (fun K hK => ?_); refine o_box rfl H rfl (fun w3 b2 he H2 => hK _ _ ?_)); clear hK K he; clear H; (try clear w2); revert w3; intro w2 H; simp [Act.eval, Value.cells, setL, List.getD] at H; (first | (clear tk0; rename Nat => b1) | (clear tk1; rename Nat => b2))); simp only [Act.put, List.setIfInBounds_toArray, List.set_cons_succ, List.set_cons_zero])
    | (guard_target =~ wpTreeC _ _ _ _ _ _ _; first | (guard_target =~ wpTreeC _ _ _ (Tr.e _ Tr.nil) _ _ _; refine treeC_last (by decide +kernel) H rfl rfl (fun w3 H2 K hK => ?_); clear H; (try clear w2); (revert w3; intro w2 H); simp only [List.getElem_toArray, List.getElem_cons_succ, List.getElem_cons_zero]; (first | fail); simp only [Act.put, List.setIfInBounds_toArray, List.set_cons_succ, List.set_cons_zero]) | (guard_target =~ wpTreeC _ _ _ (Tr.q _ _) _ _ _; first | (refine treeC_quiet ⟨_, H, by repeat first | exact .here | apply Suf.there⟩ rfl rfl rfl (fun K hK => ?_); simp only [List.getElem_toArray, List.getElem_cons_succ, List.getElem_cons_zero]; first | (guard_target =~ Oper.quiet _ (Oper.mk _ (.load _ _) _ _ _ _) _ _ _; (first | (refine q_loadC (v := ?_) (row := ?_) rfl rfl ?_ ?_ ?_ (hK _ ?_); rotate_left 2; (repeat first | exact .head _ | apply List.Mem.tail); (exact rfl); (focus (intro _; simp; done))) | (refine q_loadNC (row := ?_) rfl rfl ?_ ?_ ?_ (hK _ ?_); rotate_left 1; (repeat first | exact .head _ | apply List.Mem.tail); (focus (intro _; simp; done)); (focus (intro _; simp; done)))); clear hK K; simp only [Act.put, List.setIfInBounds_toArray, List.set_cons_succ, List.set_cons_zero]) | (go_big_quiet_op; (try refine ⟨_, fun _ _ => rfl, ?_⟩); refine hK _ ?_; clear hK K)) | (refine treeC_call (v := ?_) ⟨_, H, by repeat first | exact .here | apply Suf.there⟩ rfl rfl (fun w3 H K hK => ?_) ?_; rotate_left 1; (focus (simp only [List.getElem_toArray, List.getElem_cons_succ, List.getElem_cons_zero]; first | (go_big_op; first | exact hK _ (Ext.refl _) | (go_at_call 67; (with_reducible refine (h1 _).mono ?_); rintro e w3 ⟨rfl, hb⟩; dsimp only; first | exact hK _ hb | exact hK _ (Ext.refl _)) | (go_at_call 68; (with_reducible refine (h2 _).mono ?_); rintro e w3 ⟨rfl, hb⟩; dsimp only; first | exact hK _ hb | exact hK _ (Ext.refl _)) | (go_at_call 68; (with_reducible refine (h3 _).mono ?_); rintro e w3 ⟨rfl, hb⟩; dsimp only; first | exact hK _ hb | exact hK _ (Ext.refl _)) | (go_at_call 66; (with_reducible refine (cmpOr3 H).mono ?_); rintro e w3 ⟨rfl, hb⟩; dsimp only; first | exact hK _ hb | exact hK _ (Ext.refl _))))); simp only [List.getElem_toArray, List.getElem_cons_succ, List.getElem_cons_zero, Act.put, List.setIfInBounds_toArray, List.set_cons_succ, List.set_cons_zero]) | (refine treeC_skip ⟨_, H, by repeat first | exact .here | apply Suf.there⟩ rfl rfl ?_; simp only [List.getElem_toArray, List.getElem_cons_succ, List.getElem_cons_zero, Act.put, List.setIfInBounds_toArray, List.set_cons_succ, List.set_cons_zero])) | (guard_target =~ wpTreeC _ _ _ (Tr.both _ _) _ _ _; refine treeC_both ?_ ?_) | (guard_target =~ wpTreeC _ _ _ (Tr.e _ _) _ _ _; first | (refine treeC_one H rfl rfl (fun w3 H2 K hK => ?_); clear H; (try clear w2); (revert w3; intro w2 H); simp only [List.getElem_toArray, List.getElem_cons_succ, List.getElem_cons_zero]; first | (((guard_target =~ Oper.wp _ (Oper.mk _ (.buildSlice _ _ _) _ _ _ _) _ _ _ _; refine o_buildSlice (C := ?_) (E := ?_) rfl rfl H ?_ rfl (fun w3 b2 he H2 => hK _ _ ⟨_, H2, ?_⟩ ?_); rotate_left 2; (focus (intro _; simp [go_sem, Instr.buildSlice]; with_reducible exact rfl))); (guard_target =~ Suf _ _; repeat first | exact .here | apply Suf.there); clear hK K he; clear H; (try clear w2); revert w3; intro w2 H; simp [Act.eval, Value.cells, setL, List.getD] at H; (clear tk2; rename Nat => b3)); simp only [Act.put, List.setIfInBounds_toArray, List.set_cons_succ, List.set_cons_zero]) | (go_big_op; (skip))) | (refine treeC_one_skip (fun w3 hx => ⟨_, H.ext hx, by repeat first | exact .here | apply Suf.there⟩) rfl rfl (fun w3 hx => ?_); replace H := H.ext hx; clear hx; (try clear w2); revert w3; intro w2 H; simp only [List.getElem_toArray, List.getElem_cons_succ, List.getElem_cons_zero, Act.put, List.setIfInBounds_toArray, List.set_cons_succ, List.set_cons_zero])) | (guard_target =~ wpTreeC _ _ _ Tr.nil _ _ _; refine treeC_nil H (fun w3 H2 => ?_); clear H; (try clear w2); revert w3; intro w2 H)))
  go_ret
  exact ⟨by rw [HZ.out]; rfl, H.below⟩
theorem sizeOf_tz (w : World) : (Go.sizeOf 73).run Try.prog w = .ok 8 w := by kernel_rfl
theorem agg_tz (w : World) : (isAgg 73).run Try.prog w = .ok true w := by kernel_rfl
theorem enter_all (args : Array Value) (w : World) : (callFunc 65 args).run Try.prog w = .ok (.enter 65 args) w := by kernel_rfl
theorem allF_swo : SWO (ltOf allZ) :=
  ⟨fun a => ltA_swo.1 a, fun {a b c} h g => ltA_swo.2.1 a b c h g, fun {a b c} h g => ltA_swo.2.2 a b c h g⟩
def tz0 : Tz := ⟨0, 0, false, false, ⟨0, 0⟩, ⟨0, 0⟩⟩
theorem sortT_any {B : Nat} {w0 w : World} {rest : List Res} {n : Nat} {v : Value} {L : List Tz} (hn : n = L.length) (hl : n ≤ 1000000) (H : Own B w0 w (.grow 73 8 v n (tR L) :: rest)) :
    Calls Try.prog 64 #[v, .func (.func 65) #[] #[]] w fun r w' =>
      r = .returned (.tuple #[]) ∧ ∃ L' : List Tz, L'.Perm L ∧ L'.Pairwise (fun a b => ltA b a = false) ∧ Own B w0 w' (.grow 73 8 v n (tR L') :: rest) := by
  by_cases hpos : n = 0
  · subst hpos
    have hnil : L = [] := List.length_eq_zero_iff.1 hn.symm
    subst hnil
    obtain ⟨A, c, rfl⟩ := H.growForm m0
    refine (AnyF.slices_SortFunc_none (P := Try.prog) { sortT with } A c _ w).mono ?_
    rintro r w' ⟨rfl, rfl⟩
    exact ⟨rfl, [], .refl _, .nil, H⟩
  letI : Inhabited Tz := ⟨tz0⟩
  obtain ⟨b, cap, rfl⟩ := H.growSome m0 (by omega) (by decide)
  have := sortK_any (enc := tz8) sortT (by decide) agg_tz sizeOf_tz (fun _ => rfl) (fun x u hu => by
      simp only [tz8, List.mem_cons, List.not_mem_nil, or_false] at hu
      rcases hu with rfl | rfl | rfl | rfl | rfl | rfl | rfl | rfl <;> rfl) allZ allF_swo 65 #[] enter_all hn hl H (fun W _ x y => cmpA_any x y W)
  refine this.mono ?_
  rintro r w' ⟨rfl, ys, h1, h2, H'⟩
  exact ⟨rfl, ys, h1, h2, H'⟩
theorem liveT_step {P : List Pc} {j : Nat} {p : Pc} (h : P[j]? = some p) : liveT (P.take (j + 1)) = if p.g = true then liveT (P.take j) else liveT (P.take j) ++ [p.t] := by
  unfold liveT
  rw [List.take_add_one, h, List.filter_append, List.map_append]
  cases hg : p.g <;> simp [hg]
theorem liveT_len (P : List Pc) (j : Nat) : (liveT (P.take j)).length ≤ j := by
  unfold liveT
  rw [List.length_map]
  exact Nat.le_trans (List.length_filter_le _ _) (by rw [List.length_take]; omega)
theorem tR_one (t : Tz) : tR [t] = [.int .i64 t.top, .int .i64 t.bot, .bool t.hl, .bool t.hr, .int .i64 t.l.x, .int .i64 t.l.y, .int .i64 t.r.x, .int .i64 t.r.y] := rfl
set_option maxRecDepth 100000 in
set_option maxHeartbeats 8000000 in
theorem tallN_any (w : World) : Calls Try.prog 40 #[.pointer none] w fun e w' => e = .returned (.slice none 0 0) ∧ Below w.heap.size w w' := by
  have H := Own.start w
  go_enter Try.func40, Try.ntmps40
  have tk0 : True := trivial
  go_wp2_with (first | fail)
  go_ret
  exact ⟨rfl, H.below⟩
set_option maxRecDepth 100000 in
set_option maxHeartbeats 16000000 in
theorem tall_any {B : Nat} {w0 w : World} {l : List Res} {bx ks ke n m cn cp dn dp : Nat} {P : List Pc} (hm : m = P.length) (hml : m ≤ 1000000) (H : Own B w0 w (xB bx ks ke n m cn cp dn dp :: pG dp m cp P :: l)) :
    Calls Try.prog 40 #[.pointer (some ⟨bx, 0, none⟩)] w fun e w' => ∃ A k c L, e = .returned (.slice A k c) ∧ k = L.length ∧ AllP P L ∧ Own B w0 w' (.grow 73 8 (.slice A k c) k (tR L) :: xB bx ks ke n m cn cp dn dp :: pG dp m cp P :: l) := by
  simp only [xB, pG] at H ⊢
  have HM := Lib.hid hm
  clear hm
  go_enter Try.func40, Try.ntmps40
  have tk0 : True := trivial
  go_wp2_with (guard_target =~ wpList _ _ _ (_ :: _) _ _; (guard_target =~ wpList _ _ _ (Oper.mk _ (.load _ _) _ _ _ _ :: _) _ _; refine BigFrame.wpList_want rfl (fun K hK => ?_); (refine o_loadC (v := ?_) (row := ?_) rfl rfl H ?_ ?_ ?_ (hK _ _ ?_); rotate_left 2; (repeat first | exact .head _ | apply List.Mem.tail); (exact rfl); (focus (intro _; simp; done))); clear hK K); simp only [Act.put, List.setIfInBounds_toArray, List.set_cons_succ, List.set_cons_zero])
  have H := H.grow_nil 73 8
  go_loopg [13, 3] m (fun k i v wr => k ≤ m ∧ i = .int .i64 ((m - k : Nat) : Int) ∧ ∃ q, q = (liveT (P.take (m - k))).length ∧ Own B w0 wr (.grow 73 8 v q (tR (liveT (P.take (m - k)))) :: .cells bx [.slice (some ⟨dn, 0, none⟩) n cn, .slice (some ⟨dp, 0, none⟩) m cp, .map (some ks), .map (some ke)] :: .grow 121 10 (.slice (some ⟨dp, 0, none⟩) m cp) m (pR P) :: l))
  case atStart => exact ⟨Nat.le_refl _, by simp, 0, by rw [Nat.sub_self]; rfl, by rw [Nat.sub_self]; exact H⟩
  case round =>
    clear H
    obtain ⟨hk, rfl, q, hq, H⟩ := hrel
    by_cases hlt : 0 < gk
    · obtain ⟨j, hj⟩ : ∃ j, m - gk = j := ⟨_, rfl⟩
      have hjl : j < m := by omega
      rw [hj] at H hq ⊢
      obtain ⟨p, he⟩ : ∃ p, P[j]? = some p := ⟨_, List.getElem?_eq_getElem (by have := HM.out; omega)⟩
      have hst := liveT_step he
      obtain ⟨⟨tp, bt, hl, hr, ⟨lx, ly⟩, ⟨rx, ry⟩⟩, nd, gn⟩ := p
      have hp := p_grow (n := m) (b := dp) (c := cp) he
      simp only [pc10] at hp
      have hql : q ≤ j := by rw [hq]; exact liveT_len _ _
      generalize liveT (P.take j) = D at H hq hst
      have HST := Lib.hid hst
      have HJ := Lib.hid hj
      have HQ := Lib.hid hq
      clear he hst hj hq
      cases gn
      · have tk0 : True := trivial
        go_wp2_with (guard_target =~ wpList _ _ _ (_ :: _) _ _; (first | (guard_target =~ wpList _ _ _ (Oper.mk _ (.call { callee := .builtin .append, args := _, argTypes := _ }) _ _ _ _ :: _) _ _; refine BigFrame.wpList_want rfl (fun K hK => ?_); refine o_append (row := ?_) (n := ?_) (xs := ?_) (l' := ?_) infoTz rfl rfl rfl H ?_ rfl ?_ ?_ (by kernel_rfl) rfl (by decide) ?_ ?_ ?_ (fun v2 w3 H2 hn => hK _ _ ?_); rotate_left 4; (repeat first | exact .head _ | apply List.Mem.tail); (focus (simp; done)); (focus (intro _; (exact r2))); exact rfl; exact (by unfold maxLen; omega); exact (by omega); clear hK K hn; clear H; (try clear w2); revert w3; intro w2 H; simp only [List.take_succ_cons, List.take_zero, Nat.one_mul] at H) | (guard_target =~ wpList _ _ _ (Oper.mk _ (.load _ _) _ _ _ _ :: _) _ _; refine BigFrame.wpList_want rfl (fun K hK => ?_); (first | (refine o_loadPz (t0 := ?_) (t1 := ?_) (t2 := ?_) (t3 := ?_) (t4 := ?_) (t5 := ?_) (t6 := ?_) (t7 := ?_) (t8 := ?_) (t9 := ?_) rfl rfl H ?_ ?_ ?_ (hK _ _ ?_); rotate_left 10; (repeat first | exact .head _ | apply List.Mem.tail); (focus (intro _; simp; done)); (focus (intro _; simp; done))) | (refine o_loadC (v := ?_) (row := ?_) rfl rfl H ?_ ?_ ?_ (hK _ _ ?_); rotate_left 2; (repeat first | exact .head _ | apply List.Mem.tail); (exact rfl); (focus (intro _; simp; done))) | (refine o_loadN (cs := ?_) (r := ?_) rfl rfl H ?_ ?_ ?_ ?_ (hK _ _ ?_); rotate_left 2; (with_reducible assumption); (repeat first | exact .head _ | apply List.Mem.tail); (focus (intro _; simp; done)); (focus (intro _; simp; done)))); clear hK K) | (guard_target =~ wpList _ _ _ (Oper.mk _ (.store _ _ _) _ _ _ _ :: _) _ _; refine BigFrame.wpList_want rfl (fun K hK => ?_); refine o_store (l' := ?_) (row := ?_) rfl rfl H rfl ?_ ?_ ?_ ?_ (fun w3 H2 => hK _ _ ?_); rotate_left 2; (exact r0); (focus (intro _; simp [Act.eval, Value.cells]; done)); (focus (simp [Act.eval, Value.cells]; done)); (exact rfl); clear hK K; clear H; (try clear w2); revert w3; intro w2 H; simp [Act.eval, Value.cells, setL, List.getD] at H) | ((first | (guard_target =~ wpList _ _ _ (Oper.mk _ (.alloc _) _ _ _ _ :: _) _ _; refine BigFrame.wpList_want rfl (fun K hK => ?_); refine o_alloc (z := ?_) rfl ?_ H rfl (fun w3 b2 he H2 => hK _ _ ?_); rotate_left 1; (focus (intro _; simp; with_reducible exact rfl))) | (guard_target =~ wpList _ _ _ (Oper.mk _ (.buildSlice _ _ _) _ _ _ _ :: _) _ _; refine BigFrame.wpList_want rfl (fun K hK => ?_); refine o_buildSlice (C := ?_) (E := ?_) rfl rfl H ?_ rfl (fun w3 b2 he H2 => hK _ _ ?_); rotate_left 2; (focus (intro _; simp [go_sem, Instr.buildSlice]; with_reducible exact rfl)))); clear hK K he; clear H; (try clear w2); revert w3; intro w2 H; simp [Act.eval, Value.cells, setL, List.getD] at H; (clear tk0; rename Nat => b2))); simp only [Act.put, List.setIfInBounds_toArray, List.set_cons_succ, List.set_cons_zero])
        go_roundg (gk - 1)
        case rel =>
          refine ⟨by omega, by have := HJ.out; congr 1; omega, q + 1, ?_, ?_⟩
          · rw [show m - (gk - 1) = j + 1 by have := HJ.out; omega, HST.out, if_neg (by simp), List.length_append, HQ.out]; rfl
          · rw [show m - (gk - 1) = j + 1 by have := HJ.out; omega, HST.out, if_neg (by simp), tR_app, tR_one]
            exact (H.sub (by repeat first | exact List.Sublist.refl _ | apply List.Sublist.cons_cons | apply List.Sublist.cons))
        case measure => omega
      · have tk0 : True := trivial
        go_wp2_with (guard_target =~ wpList _ _ _ (_ :: _) _ _; (first | (guard_target =~ wpList _ _ _ (Oper.mk _ (.load _ _) _ _ _ _ :: _) _ _; refine BigFrame.wpList_want rfl (fun K hK => ?_); (first | (refine o_loadC (v := ?_) (row := ?_) rfl rfl H ?_ ?_ ?_ (hK _ _ ?_); rotate_left 2; (repeat first | exact .head _ | apply List.Mem.tail); (exact rfl); (focus (intro _; simp; done))) | (refine o_loadN (cs := ?_) (r := ?_) rfl rfl H ?_ ?_ ?_ ?_ (hK _ _ ?_); rotate_left 2; (with_reducible assumption); (repeat first | exact .head _ | apply List.Mem.tail); (focus (intro _; simp; done)); (focus (intro _; simp; done)))); clear hK K) | (guard_target =~ wpList _ _ _ (Oper.mk _ (.store _ _ _) _ _ _ _ :: _) _ _; refine BigFrame.wpList_want rfl (fun K hK => ?_); refine o_store (l' := ?_) (row := ?_) rfl rfl H rfl ?_ ?_ ?_ ?_ (fun w3 H2 => hK _ _ ?_); rotate_left 2; (exact r0); (focus (intro _; simp [Act.eval, Value.cells]; done)); (focus (simp [Act.eval, Value.cells]; done)); (exact rfl); clear hK K; clear H; (try clear w2); revert w3; intro w2 H; simp [Act.eval, Value.cells, setL, List.getD] at H) | ((guard_target =~ wpList _ _ _ (Oper.mk _ (.alloc _) _ _ _ _ :: _) _ _; refine BigFrame.wpList_want rfl (fun K hK => ?_); refine o_alloc (z := ?_) rfl ?_ H rfl (fun w3 b2 he H2 => hK _ _ ?_); rotate_left 1; (focus (intro _; simp; with_reducible exact rfl))); clear hK K he; clear H; (try clear w2); revert w3; intro w2 H; simp [Act.eval, Value.cells, setL, List.getD] at H; (clear tk0; rename Nat => b2))); simp only [Act.put, List.setIfInBounds_toArray, List.set_cons_succ, List.set_cons_zero])
        go_roundg (gk - 1)
        case rel =>
          refine ⟨by omega, by have := HJ.out; congr 1; omega, q, ?_, ?_⟩
          · rw [show m - (gk - 1) = j + 1 by have := HJ.out; omega, HST.out, if_pos trivial, HQ.out]
          · rw [show m - (gk - 1) = j + 1 by have := HJ.out; omega, HST.out, if_pos trivial]
            exact (H.sub (by repeat first | exact List.Sublist.refl _ | apply List.Sublist.cons_cons | apply List.Sublist.cons))
        case measure => omega
    · obtain rfl : gk = 0 := by omega
      rw [Nat.sub_zero, List.take_of_length_le (by have := HM.out; omega)] at hq H
      have hql : q ≤ 1000000 := by
        rw [hq]
        have := liveT_len P P.length
        rw [List.take_length] at this
        have := HM.out; omega
      have HQ := Lib.hid hq
      go_wp2_with (go_at_call 64; (with_reducible refine (sortT_any hq hql H).mono ?_); rintro e w3 ⟨rfl, L, hp, hs, H2⟩; replace H := H2; clear H2; dsimp only)
      obtain ⟨A5, c5, rfl⟩ := H.growForm m0
      go_ret
      exact ⟨A5, q, c5, L, rfl, by rw [HQ.out, hp.length_eq], ⟨hp, hs⟩, (H.sub (by repeat first | exact List.Sublist.refl _ | apply List.Sublist.cons_cons | apply List.Sublist.cons))⟩
end Go.Proofs.Ytlhmjhildlnokaa

/-
  The walks of the small functions of the index's statements: few, plain, awake.
-/
namespace Go.Proofs.Ytlhmjhildlnokaa
set_option linter.unusedVariables false
set_option linter.unusedSimpArgs false
open Go.RowKit Go.Sort Go.Shelf

set_option maxRecDepth 100000 in
theorem few21_any (A A2 : Option Addr) (n m c c2 : Nat) (w : World) :
    Calls Try.prog 36 #[.agg #[.slice A n c, .slice A2 m c2]] w fun e w' => e = .returned (.bool (decide (n ≤ 40) && decide (m ≤ 40))) ∧ Below w.heap.size w w' := by
  have H := Own.start w
  obtain ⟨v, hv⟩ : ∃ v, (decide (n ≤ 40) && decide (m ≤ 40)) = v := ⟨_, rfl⟩
  have HV := Lib.hid hv
  rw [hv]; clear hv
  go_enter Try.func36, Try.ntmps36
  have tk0 : True := trivial
  go_wp2_with (first
    | go_big_skip
    | (guard_target =~ wpList _ _ _ (_ :: _) _ _; (first | (guard_target =~ wpList _ _ _ (Oper.mk _ (.load _ _) _ _ _ _ :: _) _ _; refine BigFrame.wpList_want rfl (fun K hK => ?_); (refine o_loadC (v := ?_) (row := ?_) rfl rfl H ?_ ?_ ?_ (hK _ _ ?_); rotate_left 2; (repeat first | exact .head _ | apply List.Mem.tail); (exact rfl); (focus (intro _; simp; done))); clear hK K) | ((guard_target =~ wpList _ _ _ (Oper.mk _ (.box _ _) _ _ _ _ :: _) _ _; refine BigFrame.wpList_want rfl (fun K hK => ?_); refine o_box rfl H rfl (fun w3 b2 he H2 => hK _ _ ?_)); clear hK K he; clear H; (try clear w2); revert w3; intro w2 H; simp [Act.eval, Value.cells, setL, List.getD] at H; (clear tk0; rename Nat => b1))); simp only [Act.put, List.setIfInBounds_toArray, List.set_cons_succ, List.set_cons_zero]))
  all_goals
    go_ret
    exact ⟨ret_b (by rw [← HV.out, Bool.eq_iff_iff]; simp only [Bool.and_eq_true, decide_eq_true_eq, Bool.false_eq_true, false_iff]; omega), H.below⟩
set_option maxRecDepth 100000 in
theorem plain21_any (A A2 : Option Addr) (n m c c2 : Nat) (w : World) :
    Calls Try.prog 38 #[.agg #[.slice A n c, .slice A2 m c2]] w fun e w' => e = .returned (.agg #[.slice A n c, .slice A2 m c2]) ∧ Below w.heap.size w w' := by
  have H := Own.start w
  go_enter Try.func38, Try.ntmps38
  have tk0 : True := trivial
  have tk1 : True := trivial
  go_wp2_with (guard_target =~ wpList _ _ _ (_ :: _) _ _; (first | (guard_target =~ wpList _ _ _ (Oper.mk _ (.load _ _) _ _ _ _ :: _) _ _; refine BigFrame.wpList_want rfl (fun K hK => ?_); (refine o_loadC (v := ?_) (row := ?_) rfl rfl H ?_ ?_ ?_ (hK _ _ ?_); rotate_left 2; (repeat first | exact .head _ | apply List.Mem.tail); (exact rfl); (focus (intro _; simp; done))); clear hK K) | (guard_target =~ wpList _ _ _ (Oper.mk _ (.store _ _ _) _ _ _ _ :: _) _ _; refine BigFrame.wpList_want rfl (fun K hK => ?_); refine o_store (l' := ?_) (row := ?_) rfl rfl H rfl ?_ ?_ ?_ ?_ (fun w3 H2 => hK _ _ ?_); rotate_left 2; (exact r0); (focus (intro _; simp [Act.eval, Value.cells]; done)); (focus (simp [Act.eval, Value.cells]; done)); (exact rfl); clear hK K; clear H; (try clear w2); revert w3; intro w2 H; simp [Act.eval, Value.cells, setL, List.getD] at H) | ((first | (guard_target =~ wpList _ _ _ (Oper.mk _ (.alloc _) _ _ _ _ :: _) _ _; refine BigFrame.wpList_want rfl (fun K hK => ?_); refine o_alloc (z := ?_) rfl ?_ H rfl (fun w3 b2 he H2 => hK _ _ ?_); rotate_left 1; (focus (intro _; simp; with_reducible exact rfl))) | (guard_target =~ wpList _ _ _ (Oper.mk _ (.box _ _) _ _ _ _ :: _) _ _; refine BigFrame.wpList_want rfl (fun K hK => ?_); refine o_box rfl H rfl (fun w3 b2 he H2 => hK _ _ ?_))); clear hK K he; clear H; (try clear w2); revert w3; intro w2 H; simp [Act.eval, Value.cells, setL, List.getD] at H; (first | (clear tk0; rename Nat => b1) | (clear tk1; rename Nat => b2)))); simp only [Act.put, List.setIfInBounds_toArray, List.set_cons_succ, List.set_cons_zero])
  have hr := H.loadVarN (P := Try.prog) (ty := 30) m0 (by kernel_rfl) (by kernel_rfl)
  exact bodyPost_ret (v := .agg #[.slice A n c, .slice A2 m c2]) (by simp [results, Try.results38, asAddr, hr]) rfl ⟨rfl, H.below⟩
def vs21 : List Vt := [⟨1, ⟨0, 0⟩⟩, ⟨2, ⟨4, 0⟩⟩]
def es21 : List Eg := [⟨1, 1, 2⟩]
theorem vR21 : vR vs21 = [.int .i64 1, .int .i64 0, .int .i64 0, .int .i64 2, .int .i64 4, .int .i64 0] := rfl
theorem eR21 : eR es21 = [.int .i64 1, .int .i64 1, .int .i64 2] := rfl
theorem aw21_b : buildB vs21 es21 [1] = true := by decide +kernel
def sg21 : Sg := ⟨⟨0, 0⟩, ⟨4, 0⟩⟩
def X21 : PSt := roundsS 1 sg21 [0] 1 ⟨[nd0], [pc0], 0, 0⟩
def ix21 : IxS := ⟨X21.N, X21.P, [(1, sg21)], [(⟨4, 0⟩, true), (⟨0, 0⟩, true)]⟩
theorem aw21_c : crossL [pc0] [] sg21 1 = [0] := by decide +kernel
theorem aw21_s : (segsOf vs21 es21 [1]).reverse = [(1, sg21)] := by decide +kernel
theorem aw21_x {X : IxS} (I : BldI vs21 es21 [1] X) : X = ix21 := by
  have h := I.puts
  rw [aw21_s] at h
  cases h with
  | put h hid hp =>
    cases h
    obtain ⟨all, h1, h2, h3, h4, h5⟩ := hp
    have e : all = [0] := by
      have := h1.1
      rw [show ix0.P.length = 1 from rfl, show ix0.P = [pc0] from rfl, show ix0.S = [] from rfl, aw21_c] at this
      exact List.perm_singleton.1 this
    subst e
    obtain ⟨N, P, S, E⟩ := X
    simp only at h2 h3 h4 h5
    rw [h2, h3, h4, h5]
    rfl
theorem aw21_p : X21.P.length = 5 ∧ X21.N.length = 7 := by decide +kernel
theorem aw21_l : (liveT X21.P).length = 4 := by decide +kernel
theorem aw21_d : DescZ ix21.N ix21.S ⟨2, 1⟩ 3 0 (.leaf 1) := by
  refine .ptR (d := ⟨1, 0, ⟨0, 0⟩, 5, 6⟩) (m := 6) rfl rfl (by decide +kernel) rfl ?_
  refine .ptL (d := ⟨1, 0, ⟨4, 0⟩, 3, 4⟩) (m := 3) rfl rfl (by decide +kernel) rfl ?_
  refine .lnU (d := ⟨2, 1, ⟨0, 0⟩, 1, 2⟩) (m := 1) rfl rfl (by decide +kernel) rfl ?_
  exact .leaf (d := ⟨0, 1, ⟨0, 0⟩, 0, 0⟩) rfl rfl
theorem aw21_e : (getA ix21.E ⟨2, 1⟩).getD false = false := by decide +kernel
theorem aw21_ok : LeafOK ix21.N ix21.P (.leaf 1) := ⟨1, ⟨⟨0, 1, true, true, ⟨0, 0⟩, ⟨4, 0⟩⟩, 1, false⟩, rfl, rfl⟩
theorem aw21_r : spotOf ix21.N ix21.P (.leaf 1) = spV 0 1 := rfl
set_option maxRecDepth 100000 in
set_option maxHeartbeats 8000000 in
theorem awake21_any (w : World) :
    Calls Try.prog 35 #[] w fun e w' => e = .returned (.bool true) ∧ Below w.heap.size w w' := by
  have H := Own.start w
  obtain ⟨F0, hno⟩ : ∃ F0 : Nat → Prop, ∀ k, ¬ F0 k := ⟨fun _ => False, fun _ h => h⟩
  have h1 : ∀ w A A2 A3, Sl F0 w A (vR vs21) → Sl F0 w A2 (eR es21) → Sl F0 w A3 (oR [1]) → Calls Try.prog 37 #[.agg #[.slice A 2 2, .slice A2 1 1], .slice A3 1 1] w fun e w' => ∃ bx ks ke cn cp dn dp, e = .returned (.tuple #[.pointer (some ⟨bx, 0, none⟩), .int .i64 0]) ∧ Own w.heap.size w w' (xL bx ks ke cn cp dn dp ix21 []) := by
    intro w A A2 A3 h1 h2 h3
    refine (build_any vs21 es21 [1] A A2 A3 2 1 1 2 1 1 F0 w rfl rfl rfl h1 h2 h3 (fun k h => absurd h (hno k)) (by omega) (by omega) (by omega) (by unfold maxLen; omega)).mono ?_
    rintro e w' (⟨h, _⟩ | ⟨_, X, bx, ks, ke, cn, cp, dn, dp, rfl, I, H⟩)
    · rw [aw21_b] at h; cases h
    · rw [aw21_x I] at H
      exact ⟨bx, ks, ke, cn, cp, dn, dp, rfl, H⟩
  rw [vR21, eR21, show oR [1] = [.int .i64 1] from rfl] at h1
  have h2 := fun {B w0 w l bx ks ke cn cp dn dp} H => find_any (B := B) (w0 := w0) (w := w) (l := l) (bx := bx) (ks := ks) (ke := ke) (cn := cn) (cp := cp) (dn := dn) (dp := dp) (x := 2) (y := 1) (by decide) aw21_e aw21_d aw21_ok (by decide +kernel) (by decide +kernel) H
  rw [aw21_r] at h2
  have h3 := fun {B w0 w l bx ks ke cn cp dn dp} H => tall_any (B := B) (w0 := w0) (w := w) (l := l) (bx := bx) (ks := ks) (ke := ke) (cn := cn) (cp := cp) (dn := dn) (dp := dp) (n := ix21.N.length) (P := ix21.P) rfl (by decide +kernel) H
  have h4 : ∀ (k : Nat) L, k = L.length → AllP ix21.P L → ((k : Int) == 4) = true := fun k L hk h => by rw [hk, h.1.length_eq.trans aw21_l]; rfl
  go_enter Try.func35, Try.ntmps35
  have tk0 : True := trivial
  have tk1 : True := trivial
  have tk2 : True := trivial
  have tk3 : True := trivial
  have tk4 : True := trivial
  go_wp2_with (first
    | (go_at_call 37; (with_reducible refine (h1 _ _ _ _ (H.giveCells m3 (fun k h => absurd h (hno k)) 0 rfl) (H.giveCells m2 (fun k h => absurd h (hno k)) 0 rfl) (H.giveCells m0 (fun k h => absurd h (hno k)) 0 rfl)).mono ?_); rintro e w3 ⟨bx, ks, ke, cn, cp, dn, dp, rfl, H2⟩; replace H := H.join H2 rfl; clear H2; simp only [xL, List.cons_append, List.nil_append] at H; dsimp only)
    | (go_at_call 41; (replace H:Own _ _ _ (mEnd _ _ :: _) := H.front4); (replace H:Own _ _ _ (mSeg _ _ :: _) := H.front4); (replace H:Own _ _ _ (Res.grow 121 _ _ _ _ :: _) := H.front4); (replace H:Own _ _ _ (Res.grow 127 _ _ _ _ :: _) := H.front4); (replace H:Own _ _ _ (Res.cells bx _ :: _) := H.front4); (with_reducible refine (h2 H).mono ?_); rintro e w3 ⟨rfl, H2⟩; replace H := H2; clear H2; dsimp only)
    | (go_at_call 40; (replace H:Own _ _ _ (Res.grow 121 _ _ _ _ :: _) := H.front3); (replace H:Own _ _ _ (Res.cells bx _ :: _) := H.front2); (with_reducible refine (h3 H).mono ?_); rintro e w3 ⟨A9, k9, c9, L9, rfl, hk9, hA9, H2⟩; replace H := H2; clear H2; have hk4 := h4 _ _ hk9 hA9; clear hk9; dsimp only)
    | (guard_target =~ wpList _ _ _ (_ :: _) _ _; (first | (guard_target =~ wpList _ _ _ (Oper.mk _ (.load _ _) _ _ _ _ :: _) _ _; refine BigFrame.wpList_want rfl (fun K hK => ?_); (first | (refine o_loadC (v := ?_) (row := ?_) rfl rfl H ?_ ?_ ?_ (hK _ _ ?_); rotate_left 2; (repeat first | exact .head _ | apply List.Mem.tail); (exact rfl); (focus (intro _; simp; done))) | (refine o_loadNC (row := ?_) rfl rfl H ?_ ?_ ?_ (hK _ _ ?_); rotate_left 1; (repeat first | exact .head _ | apply List.Mem.tail); (focus (intro _; simp; done)); (focus (intro _; simp; done)))); clear hK K) | (guard_target =~ wpList _ _ _ (Oper.mk _ (.store _ _ _) _ _ _ _ :: _) _ _; refine BigFrame.wpList_want rfl (fun K hK => ?_); refine o_store (l' := ?_) (row := ?_) rfl rfl H rfl ?_ ?_ ?_ ?_ (fun w3 H2 => hK _ _ ?_); rotate_left 2; (exact r0); (focus (intro _; simp [Act.eval, Value.cells]; done)); (focus (simp [Act.eval, Value.cells]; done)); (exact rfl); clear hK K; clear H; (try clear w2); revert w3; intro w2 H; simp [Act.eval, Value.cells, setL, List.getD] at H) | ((first | (guard_target =~ wpList _ _ _ (Oper.mk _ (.alloc _) _ _ _ _ :: _) _ _; refine BigFrame.wpList_want rfl (fun K hK => ?_); refine o_alloc (z := ?_) rfl ?_ H rfl (fun w3 b2 he H2 => hK _ _ ?_); rotate_left 1; (focus (intro _; simp; with_reducible exact rfl))) | (guard_target =~ wpList _ _ _ (Oper.mk _ (.buildSlice _ _ _) _ _ _ _ :: _) _ _; refine BigFrame.wpList_want rfl (fun K hK => ?_); refine o_buildSlice (C := ?_) (E := ?_) rfl rfl H ?_ rfl (fun w3 b2 he H2 => hK _ _ ?_); rotate_left 2; (focus (intro _; simp [go_sem, Instr.buildSlice]; with_reducible exact rfl)))); clear hK K he; clear H; (try clear w2); revert w3; intro w2 H; simp [Act.eval, Value.cells, setL, List.getD] at H; (first | (clear tk0; rename Nat => b1) | (clear tk1; rename Nat => b2) | (clear tk2; rename Nat => b5) | (clear tk3; rename Nat => b6) | (clear tk4; rename Nat => b7)))); simp only [Act.put, List.setIfInBounds_toArray, List.set_cons_succ, List.set_cons_zero]))
  go_ret
  exact ⟨rfl, H.below⟩
end Go.Proofs.Ytlhmjhildlnokaa

/-
  Lines, trapezes, spots held against each other, field by field.
-/
namespace Go.Proofs.Ytlhmjhildlnokaa
set_option linter.unusedVariables false
set_option linter.unusedSimpArgs false
open Go.RowKit
abbrev pU (p : Pt) : Value := .agg #[.int .i64 p.x, .int .i64 p.y]
theorem bool_agg (w : World) : (isAgg 4).run Try.prog w = .ok false w := by kernel_rfl
theorem eq_bool_in (k : Nat) (a b : Bool) (w : World) : (Op.equalIn (k + 1) 4 (.bool a) (.bool b)).run Try.prog w = .ok (decide (a = b)) w := by
  have hu : Try.prog.underlying 4 = some .bool := by kernel_rfl
  unfold Op.equalIn
  simp [hu]
  try (cases a <;> cases b <;> rfl)
theorem pt_dec (p q : Pt) : (decide (p.x = q.x) && decide (p.y = q.y)) = decide (p = q) := by
  obtain ⟨a, b⟩ := p
  obtain ⟨c, d⟩ := q
  rw [Bool.eq_iff_iff]
  simp
theorem pt_size (w : World) : (sizeOf 47).run Try.prog w = .ok 2 w := by kernel_rfl
theorem pt_agg (w : World) : (isAgg 47).run Try.prog w = .ok true w := by kernel_rfl
theorem eqSg_in (s t : Sg) (w : World) : (Op.equalIn 10000 111 (sgV s) (sgV t)).run Try.prog w = .ok (decide (s = t)) w := by
  have h := eqS_in (P := Try.prog) (d := 9999) (T := 111) (xs := #[.int .i64 s.a.x, .int .i64 s.a.y, .int .i64 s.b.x, .int .i64 s.b.y]) (ys := #[.int .i64 t.a.x, .int .i64 t.a.y, .int .i64 t.b.x, .int .i64 t.b.y])
    [⟨47, 0, pU s.a, pU t.a, decide (s.a.x = t.a.x) && decide (s.a.y = t.a.y)⟩, ⟨47, 2, pU s.b, pU t.b, decide (s.b.x = t.b.x) && decide (s.b.y = t.b.y)⟩] (by kernel_rfl) (by kernel_rfl) (by kernel_rfl) (fun f hf => by
      simp only [List.mem_cons, List.not_mem_nil, or_false] at hf
      rcases hf with rfl | rfl
      · exact ⟨part_row pt_agg pt_size rfl, part_row pt_agg pt_size rfl, eqP_in 9997 _ _ _ _⟩
      · exact ⟨part_row pt_agg pt_size rfl, part_row pt_agg pt_size rfl, eqP_in 9997 _ _ _ _⟩) w
  rw [h]
  simp only [List.all_cons, List.all_nil, Bool.and_true, pt_dec]
  obtain ⟨a, b⟩ := s
  obtain ⟨c, d⟩ := t
  have : (decide (a = c) && decide (b = d)) = decide ((⟨a, b⟩ : Sg) = ⟨c, d⟩) := by rw [Bool.eq_iff_iff]; simp
  rw [this]
theorem eqSg_eql (s t : Sg) (w : World) : (binOp .eql 111 (sgV s) (sgV t)).run Try.prog w = .ok (.bool (decide (s = t))) w := eqS_eql (P := Try.prog) (eqSg_in s t) w
theorem eqSg_neq (s t : Sg) (w : World) : (binOp .neq 111 (sgV s) (sgV t)).run Try.prog w = .ok (.bool (!decide (s = t))) w := eqS_neq (P := Try.prog) (eqSg_in s t) w
theorem eqSg_guard (op : BinOp) (x y : Operand) (a0 : Int) (a1 : Int) (a2 : Int) (a3 : Int) (b0 : Int) (b1 : Int) (b2 : Int) (b3 : Int) (w : World) : (eqGuard op 111 x y (.agg #[.int .i64 a0, .int .i64 a1, .int .i64 a2, .int .i64 a3]) (.agg #[.int .i64 b0, .int .i64 b1, .int .i64 b2, .int .i64 b3])).run Try.prog w = .ok () w := by
  have h : Try.prog.eqGuardType Try.prog.depth 111 = false := by kernel_rfl
  cases op <;> simp [eqGuard, h]
theorem eqTz_in (s t : Tz) (w : World) : (Op.equalIn 10000 73 (tzV s) (tzV t)).run Try.prog w = .ok (decide (s = t)) w := by
  have h := eqS_in (P := Try.prog) (d := 9999) (T := 73) (xs := #[.int .i64 s.top, .int .i64 s.bot, .bool s.hl, .bool s.hr, .int .i64 s.l.x, .int .i64 s.l.y, .int .i64 s.r.x, .int .i64 s.r.y]) (ys := #[.int .i64 t.top, .int .i64 t.bot, .bool t.hl, .bool t.hr, .int .i64 t.l.x, .int .i64 t.l.y, .int .i64 t.r.x, .int .i64 t.r.y])
    [⟨3, 0, .int .i64 s.top, .int .i64 t.top, decide (s.top = t.top)⟩, ⟨3, 1, .int .i64 s.bot, .int .i64 t.bot, decide (s.bot = t.bot)⟩, ⟨4, 2, .bool s.hl, .bool t.hl, decide (s.hl = t.hl)⟩, ⟨4, 3, .bool s.hr, .bool t.hr, decide (s.hr = t.hr)⟩,
     ⟨47, 4, pU s.l, pU t.l, decide (s.l.x = t.l.x) && decide (s.l.y = t.l.y)⟩, ⟨47, 6, pU s.r, pU t.r, decide (s.r.x = t.r.x) && decide (s.r.y = t.r.y)⟩] (by kernel_rfl) (by kernel_rfl) (by kernel_rfl) (fun f hf => by
      simp only [List.mem_cons, List.not_mem_nil, or_false] at hf
      rcases hf with rfl | rfl | rfl | rfl | rfl | rfl
      · exact ⟨part_cell int_agg rfl, part_cell int_agg rfl, eq_int_in 9998 _ _⟩
      · exact ⟨part_cell int_agg rfl, part_cell int_agg rfl, eq_int_in 9998 _ _⟩
      · exact ⟨part_cell bool_agg rfl, part_cell bool_agg rfl, eq_bool_in 9998 _ _⟩
      · exact ⟨part_cell bool_agg rfl, part_cell bool_agg rfl, eq_bool_in 9998 _ _⟩
      · exact ⟨part_row pt_agg pt_size rfl, part_row pt_agg pt_size rfl, eqP_in 9997 _ _ _ _⟩
      · exact ⟨part_row pt_agg pt_size rfl, part_row pt_agg pt_size rfl, eqP_in 9997 _ _ _ _⟩) w
  rw [h]
  simp only [List.all_cons, List.all_nil, Bool.and_true, pt_dec]
  obtain ⟨a, b, c, d, e, f⟩ := s
  obtain ⟨a', b', c', d', e', f'⟩ := t
  have : (decide (a = a') && (decide (b = b') && (decide (c = c') && (decide (d = d') && (decide (e = e') && decide (f = f')))))) = decide ((⟨a, b, c, d, e, f⟩ : Tz) = ⟨a', b', c', d', e', f'⟩) := by rw [Bool.eq_iff_iff]; simp
  rw [← this]
theorem eqTz_neq (s t : Tz) (w : World) : (binOp .neq 73 (tzV s) (tzV t)).run Try.prog w = .ok (.bool (!decide (s = t))) w := eqS_neq (P := Try.prog) (eqTz_in s t) w
theorem eqTz_guard (op : BinOp) (x y : Operand) (a0 : Int) (a1 : Int) (a2 : Bool) (a3 : Bool) (a4 : Int) (a5 : Int) (a6 : Int) (a7 : Int) (b0 : Int) (b1 : Int) (b2 : Bool) (b3 : Bool) (b4 : Int) (b5 : Int) (b6 : Int) (b7 : Int) (w : World) : (eqGuard op 73 x y (.agg #[.int .i64 a0, .int .i64 a1, .bool a2, .bool a3, .int .i64 a4, .int .i64 a5, .int .i64 a6, .int .i64 a7]) (.agg #[.int .i64 b0, .int .i64 b1, .bool b2, .bool b3, .int .i64 b4, .int .i64 b5, .int .i64 b6, .int .i64 b7])).run Try.prog w = .ok () w := by
  have h : Try.prog.eqGuardType Try.prog.depth 73 = false := by kernel_rfl
  cases op <;> simp [eqGuard, h]
theorem eqSp_in (a b c d : Int) (w : World) : (Op.equalIn 10000 69 (.agg #[.int .i64 a, .int .i64 b]) (.agg #[.int .i64 c, .int .i64 d])).run Try.prog w = .ok (decide (a = c) && decide (b = d)) w := by
  have h := eqS_in (P := Try.prog) (d := 9999) (T := 69) (xs := #[.int .i64 a, .int .i64 b]) (ys := #[.int .i64 c, .int .i64 d])
    [⟨3, 0, .int .i64 a, .int .i64 c, decide (a = c)⟩, ⟨3, 1, .int .i64 b, .int .i64 d, decide (b = d)⟩] (by kernel_rfl) (by kernel_rfl) (by kernel_rfl) (fun f hf => by
      simp only [List.mem_cons, List.not_mem_nil, or_false] at hf
      rcases hf with rfl | rfl
      · exact ⟨part_cell int_agg rfl, part_cell int_agg rfl, eq_int_in 9998 _ _⟩
      · exact ⟨part_cell int_agg rfl, part_cell int_agg rfl, eq_int_in 9998 _ _⟩) w
  rw [h]
  simp
theorem eqSp_eql (a b c d : Int) (w : World) : (binOp .eql 69 (.agg #[.int .i64 a, .int .i64 b]) (.agg #[.int .i64 c, .int .i64 d])).run Try.prog w = .ok (.bool (decide (a = c) && decide (b = d))) w := eqS_eql (P := Try.prog) (eqSp_in a b c d) w
theorem eqSp_guard (op : BinOp) (x y : Operand) (a0 : Int) (a1 : Int) (b0 : Int) (b1 : Int) (w : World) : (eqGuard op 69 x y (.agg #[.int .i64 a0, .int .i64 a1]) (.agg #[.int .i64 b0, .int .i64 b1])).run Try.prog w = .ok () w := by
  have h : Try.prog.eqGuardType Try.prog.depth 69 = false := by kernel_rfl
  cases op <;> simp [eqGuard, h]
end Go.Proofs.Ytlhmjhildlnokaa

/-
  The walks of croftlaw21's Order and same.
-/
namespace Go.Proofs.Ytlhmjhildlnokaa
set_option linter.unusedVariables false
set_option linter.unusedSimpArgs false
open Go.RowKit Go.Sort Go.Shelf

def uR (l : List Int) : List Value := l.map (Value.int .u8)
theorem uR_get {l : List Int} {j : Nat} {x : Int} (h : l[j]? = some x) : (uR l)[j]? = some (.int .u8 x) := by simp [uR, h]
theorem oR_len (l : List Int) : (oR l).length = l.length := by simp [oR]
theorem oR_app (l m : List Int) : oR (l ++ m) = oR l ++ oR m := by simp [oR]
theorem oR_one (x : Int) : oR [x] = [.int .i64 x] := rfl
theorem oR_set (l : List Int) (i : Nat) (x : Int) : (oR l).set i (.int .i64 x) = oR (l.set i x) := by simp [oR]
theorem oR_at {l : List Int} {j : Nat} {x : Int} (h : l[j]? = some x) : ((oR l).drop j).take 1 = [.int .i64 x] := by
  obtain ⟨h1, h2⟩ := List.getElem?_eq_some_iff.1 (oR_get h)
  rw [List.drop_eq_getElem_cons h1, h2]; rfl
theorem set_self {l : List Int} {a : Nat} {x : Int} (ha : l[a]? = some x) : l.set a x = l := by
  apply List.ext_getElem?
  intro i
  rw [List.getElem?_set]
  split
  · rename_i h; subst h; split
    · exact ha.symm
    · rename_i h; exact absurd (List.getElem?_eq_some_iff.1 ha).1 h
  · rfl
theorem swap_perm {l : List Int} {a b : Nat} {x y : Int} (ha : l[a]? = some x) (hb : l[b]? = some y) : ((l.set a y).set b x).Perm l := by
  by_cases hxy : x = y
  · subst hxy
    rw [set_self ha, set_self hb]
  · have e : a ≠ b := by
      rintro rfl
      rw [ha] at hb
      injection hb with hb
      exact hxy hb
    have hal := (List.getElem?_eq_some_iff.1 ha).1
    have hbl := (List.getElem?_eq_some_iff.1 hb).1
    rw [List.perm_iff_count]
    intro z
    rw [List.count_set (by simpa using hbl), List.count_set hal]
    have e1 : (l.set a y)[b]'(by simpa using hbl) = y := by
      rw [List.getElem_set_ne e]
      exact (List.getElem?_eq_some_iff.1 hb).2
    rw [e1, (List.getElem?_eq_some_iff.1 ha).2]
    have c1 : x = z → 0 < l.count z := fun h => List.count_pos_iff.2 (by rw [← h]; exact List.mem_of_getElem? ha)
    have c2 : y = z → 0 < l.count z := fun h => List.count_pos_iff.2 (by rw [← h]; exact List.mem_of_getElem? hb)
    by_cases h1 : x = z
    · have h2 : y ≠ z := fun h => hxy (h1.trans h.symm)
      have := c1 h1
      simp [h1, h2]; omega
    · by_cases h2 : y = z
      · have := c2 h2
        simp [h1, h2]
      · simp [h1, h2]
theorem setL_one (row : List Value) (i : Nat) (v : Value) : setL row i [v] = row.set i v := rfl
theorem ids_step {es : List Eg} {j : Nat} {i x y : Int} (h : es[j]? = some ⟨i, x, y⟩) : (es.take (j + 1)).map (·.id) = (es.take j).map (·.id) ++ [i] := by
  rw [List.take_add_one, h]; simp
set_option maxRecDepth 100000 in
set_option maxHeartbeats 16000000 in
theorem order21_any (vs : List Vt) (es : List Eg) (tu : List Int) (A A2 A3 : Option Addr) (n m q : Nat) (c c2 c3 : Nat) (F : Nat → Prop) (w : World) (hm : m = es.length) (hq : q = tu.length) (hs2 : Sl F w A2 (eR es)) (hs3 : Sl F w A3 (uR tu)) (hu : ∀ t ∈ tu, 0 ≤ t ∧ t < 256) (hl2 : m ≤ 40) (hlq : q ≤ 100) :
    Calls Try.prog 39 #[.agg #[.slice A n c, .slice A2 m c2], .slice A3 q c3] w fun e w' => ∃ B9 k c9 os, e = .returned (.slice B9 k c9) ∧ k = os.length ∧ os.Perm (es.map (·.id)) ∧ Own w.heap.size w w' [.grow 3 1 (.slice B9 k c9) k (oR os)] := by
  obtain ⟨b9, o9, H1, f9⟩ := (Own.start w).addSl (hs2.ro (by rfl))
  obtain ⟨b8, o8, H, f8⟩ := H1.addSl (hs3.ro (by rfl))
  clear hs2 hs3 H1
  have HM := Lib.hid hm
  have HQ := Lib.hid hq
  have HU := Lib.hid hu
  clear hm hq hu
  go_enter Try.func39, Try.ntmps39
  have tk0 : True := trivial
  go_wp2_with (guard_target =~ wpList _ _ _ (_ :: _) _ _; ((guard_target =~ wpList _ _ _ (Oper.mk _ (.box _ _) _ _ _ _ :: _) _ _; refine BigFrame.wpList_want rfl (fun K hK => ?_); refine o_box rfl H rfl (fun w3 b2 he H2 => hK _ _ ?_)); clear hK K he; clear H; (try clear w2); revert w3; intro w2 H; simp [Act.eval, Value.cells, setL, List.getD] at H; (clear tk0; rename Nat => b1)); simp only [Act.put, List.setIfInBounds_toArray, List.set_cons_succ, List.set_cons_zero])
  have H := H.grow_nil 3 1
  go_loopg [6, 5] m (fun k i u wr => k ≤ m ∧ i = .int .i64 ((m - k : Nat) : Int) ∧ Own w.heap.size w wr [.grow 3 1 u (m - k) (oR ((es.take (m - k)).map (·.id))), .cells b1 [.slice A n c, .slice A2 m c2], .rd A3 b8 o8 (uR tu), .rd A2 b9 o9 (eR es)])
  case atStart => exact ⟨Nat.le_refl _, by simp, by rw [Nat.sub_self]; exact H⟩
  case round =>
    clear H
    obtain ⟨hk, rfl, H⟩ := hrel
    by_cases hlt : 0 < gk
    · obtain ⟨j, hj⟩ : ∃ j, m - gk = j := ⟨_, rfl⟩
      have hjl : j < m := by omega
      rw [hj] at H ⊢
      obtain ⟨i, x, y, he⟩ := eg_at es (by have := HM.out; omega : j < es.length)
      obtain rfl := H.rdAddr m3 (eR_pos he)
      have hp : (Res.rd (some ⟨b9, o9, none⟩) b9 o9 (eR es)).at b9 (o9 + j * 3) [.int .i64 i] := at_rdN (by
        have := flatN_sub (f := fun e : Eg => t3 e.id e.a e.b) (k := 3) (fun _ => rfl) he 0 1 (by omega)
        exact this)
      have hst := ids_step he
      generalize (es.take j).map (·.id) = D at H hst
      have HST := Lib.hid hst
      have HJ := Lib.hid hj
      clear he hst hj
      go_wp2_with (guard_target =~ wpList _ _ _ (_ :: _) _ _; (first | (guard_target =~ wpList _ _ _ (Oper.mk _ (.call { callee := .builtin .append, args := _, argTypes := _ }) _ _ _ _ :: _) _ _; refine BigFrame.wpList_want rfl (fun K hK => ?_); refine o_append (row := ?_) (n := ?_) (xs := ?_) (l' := ?_) infoIt rfl rfl rfl H ?_ rfl ?_ ?_ (by kernel_rfl) rfl (by decide) ?_ ?_ ?_ (fun v2 w3 H2 hn => hK _ _ ?_); rotate_left 4; (repeat first | exact .head _ | apply List.Mem.tail); (focus (simp; done)); (focus (intro _; (exact r1))); exact rfl; exact (by unfold maxLen; omega); exact (by omega); clear hK K hn; clear H; (try clear w2); revert w3; intro w2 H; simp only [List.take_succ_cons, List.take_zero, Nat.one_mul] at H) | (guard_target =~ wpList _ _ _ (Oper.mk _ (.load _ _) _ _ _ _ :: _) _ _; refine BigFrame.wpList_want rfl (fun K hK => ?_); (first | (refine o_load (v := ?_) (r := ?_) rfl rfl H ?_ ?_ ?_ (hK _ _ ?_); rotate_left 2; (with_reducible assumption); (repeat first | exact .head _ | apply List.Mem.tail); (focus (intro _; simp; done))) | (refine o_loadC (v := ?_) (row := ?_) rfl rfl H ?_ ?_ ?_ (hK _ _ ?_); rotate_left 2; (repeat first | exact .head _ | apply List.Mem.tail); (exact rfl); (focus (intro _; simp; done)))); clear hK K) | ((guard_target =~ wpList _ _ _ (Oper.mk _ (.buildSlice _ _ _) _ _ _ _ :: _) _ _; refine BigFrame.wpList_want rfl (fun K hK => ?_); refine o_buildSlice (C := ?_) (E := ?_) rfl rfl H ?_ rfl (fun w3 b2 he H2 => hK _ _ ?_); rotate_left 2; (focus (intro _; simp [go_sem, Instr.buildSlice]; with_reducible exact rfl))); clear hK K he; clear H; (try clear w2); revert w3; intro w2 H; simp [Act.eval, Value.cells, setL, List.getD] at H)); simp only [Act.put, List.setIfInBounds_toArray, List.set_cons_succ, List.set_cons_zero])
      go_roundg (gk - 1)
      case rel =>
        have e := show m - (gk - 1) = j + 1 by have := HJ.out; omega
        exact ⟨by omega, by rw [e]; simp, by rw [e, HST.out, oR_app, oR_one]; exact (H.sub (by repeat first | exact List.Sublist.refl _ | apply List.Sublist.cons_cons | apply List.Sublist.cons))⟩
      case measure => omega
    · obtain rfl : gk = 0 := by omega
      rw [Nat.sub_zero, List.take_of_length_le (by have := HM.out; omega)] at H
      rw [Nat.sub_zero] at *
      obtain ⟨A5, c5, rfl⟩ := H.growForm m0
      go_wp2_with (guard_target =~ wpList _ _ _ (_ :: _) _ _; (guard_target =~ wpList _ _ _ (Oper.mk _ (.load _ _) _ _ _ _ :: _) _ _; refine BigFrame.wpList_want rfl (fun K hK => ?_); (refine o_loadC (v := ?_) (row := ?_) rfl rfl H ?_ ?_ ?_ (hK _ _ ?_); rotate_left 2; (repeat first | exact .head _ | apply List.Mem.tail); (exact rfl); (focus (intro _; simp; done))); clear hK K); simp only [Act.put, List.setIfInBounds_toArray, List.set_cons_succ, List.set_cons_zero])
      go_loopg [7] q (fun k i wr => k ≤ q ∧ i = .int .i64 ((q - k : Nat) : Int) ∧ ∃ os, os.Perm (es.map (·.id)) ∧ Own w.heap.size w wr [.grow 3 1 (.slice A5 m c5) m (oR os), .cells b1 [.slice A n c, .slice A2 m c2], .rd A3 b8 o8 (uR tu), .rd A2 b9 o9 (eR es)])
      case atStart => exact ⟨Nat.le_refl _, by simp, _, .refl _, H⟩
      case round =>
        clear H
        obtain ⟨hk, rfl, os, hos, H⟩ := hrel
        have hol : os.length = m := by rw [hos.length_eq, List.length_map]; exact HM.out.symm
        by_cases hlt2 : 0 < gk
        · obtain ⟨j, hj⟩ : ∃ j, q - gk = j := ⟨_, rfl⟩
          have hjl : j < q := by omega
          rw [hj]
          by_cases hm0 : 0 < m
          · obtain ⟨t, ht⟩ : ∃ x, tu[j]? = some x := ⟨_, List.getElem?_eq_getElem (by have := HQ.out; omega)⟩
            have htb := HU.out t (List.mem_of_getElem? ht)
            obtain rfl := H.rdAddr m2 (Nat.lt_of_le_of_lt (Nat.zero_le _) (List.getElem?_eq_some_iff.1 (uR_get ht)).1)
            have hp := at_rd (A := some ⟨b8, o8, none⟩) (b := b8) (off := o8) (uR_get ht)
            obtain ⟨t', rfl⟩ : ∃ t' : Nat, t = (t' : Int) := ⟨t.toNat, by omega⟩
            obtain ⟨a, ha⟩ : ∃ a, j % m = a := ⟨_, rfl⟩
            obtain ⟨b, hb⟩ : ∃ a, t' % m = a := ⟨_, rfl⟩
            have hma : (j : Int) % (m : Int) = (a : Int) := by rw [← ha]; exact Int.natCast_emod _ _
            have hmb : (t' : Int) % (m : Int) = (b : Int) := by rw [← hb]; exact Int.natCast_emod _ _
            have hal : a < m := by rw [← ha]; exact Nat.mod_lt _ hm0
            have hbl : b < m := by rw [← hb]; exact Nat.mod_lt _ hm0
            obtain ⟨x, hx⟩ : ∃ x, os[a]? = some x := ⟨_, List.getElem?_eq_getElem (by omega)⟩
            obtain ⟨y, hy⟩ : ∃ x, os[b]? = some x := ⟨_, List.getElem?_eq_getElem (by omega)⟩
            obtain ⟨d5, c5', he⟩ := H.growSome m0 hm0 (by decide)
            injection he with hA h1 h2
            subst hA
            clear h1 h2
            have hpa : (Res.grow 3 1 (.slice (some ⟨d5, 0, none⟩) m c5) m (oR os)).at d5 a [.int .i64 x] := at_grow (oR_at hx)
            have hpb : (Res.grow 3 1 (.slice (some ⟨d5, 0, none⟩) m c5) m (oR os)).at d5 b [.int .i64 y] := at_grow (oR_at hy)
            have hlen : (oR os).length = m := by rw [oR_len]; exact hol
            have HPM := Lib.hid (swap_perm hx hy)
            have HOS := Lib.hid hos
            have HJ := Lib.hid hj
            clear ht ha hb hx hy hos hj hol
            go_wp2_with (first
              | (guard_target =~ Code.wp _ (Code.region 9 _ true) _ _ _; refine region_treeC0 9 (G := True) (.q 0 (.q 1 (.q 2 (.q 3 (.q 4 (.q 5 (.q 6 (.q 7 (.q 8 (.q 9 (.q 10 (.q 11 (.q 12 (.q 13 .nil)))))))))))))) (by kernel_rfl) (by intro c a d v w h; cases d <;> first | exact h | exact hQ h) (by kernel_rfl) H ⟨trivial⟩ (fun _ w3 H2 => ?_); (clear H; (try clear w2); revert w3; intro w2 H))
              | (guard_target =~ wpList _ _ _ (_ :: _) _ _; (first | (guard_target =~ wpList _ _ _ (Oper.mk _ (.load _ _) _ _ _ _ :: _) _ _; refine BigFrame.wpList_want rfl (fun K hK => ?_); (refine o_load (v := ?_) (r := ?_) rfl rfl H ?_ ?_ ?_ (hK _ _ ?_); rotate_left 2; (with_reducible assumption); (repeat first | exact .head _ | apply List.Mem.tail); (focus (intro _; simp [hma, hmb, hlen]; done))); clear hK K) | (guard_target =~ wpList _ _ _ (Oper.mk _ (.store _ _ _) _ _ _ _ :: _) _ _; refine BigFrame.wpList_want rfl (fun K hK => ?_); (refine o_storeG (e := ?_) (size := ?_) (n := ?_) (cap := ?_) (xs := ?_) (l' := ?_) rfl rfl H rfl ?_ ?_ ?_ ?_ (fun w3 H2 => hK _ _ ?_); rotate_left 6; (exact r0); (focus (intro _; (simp [Act.eval, Value.cells, List.getD, hma, hmb, hlen]; done))); (focus ((try simp [Act.eval, Value.cells]); omega)); (exact rfl); clear hK K; clear H; (try clear w2); revert w3; intro w2 H; (try simp [Act.eval, List.getD, hma, hmb, hlen] at H); (try simp [Value.cells, setL, hma, hmb, hlen] at H)))); simp only [Act.put, List.setIfInBounds_toArray, List.set_cons_succ, List.set_cons_zero, hma, hmb, hlen])
              | (guard_target =~ wpTreeC _ _ _ _ _ _ _; first | (guard_target =~ wpTreeC _ _ _ (Tr.e _ Tr.nil) _ _ _; refine treeC_last (by decide +kernel) H rfl rfl (fun w3 H2 K hK => ?_); clear H; (try clear w2); (revert w3; intro w2 H); simp only [List.getElem_toArray, List.getElem_cons_succ, List.getElem_cons_zero]; (first | fail); simp only [Act.put, List.setIfInBounds_toArray, List.set_cons_succ, List.set_cons_zero, hma, hmb, hlen]) | (guard_target =~ wpTreeC _ _ _ (Tr.q _ _) _ _ _; first | (refine treeC_quiet ⟨_, H, by repeat first | exact .here | apply Suf.there⟩ rfl rfl rfl (fun K hK => ?_); simp only [List.getElem_toArray, List.getElem_cons_succ, List.getElem_cons_zero]; first | (guard_target =~ Oper.quiet _ (Oper.mk _ (.load _ _) _ _ _ _) _ _ _; (refine q_load (v := ?_) (r := ?_) rfl rfl ?_ ?_ ?_ (hK _ ?_); rotate_left 2; (with_reducible assumption); (repeat first | exact .head _ | apply List.Mem.tail); (focus (intro _; simp [hma, hmb, hlen]; done))); clear hK K; simp only [Act.put, List.setIfInBounds_toArray, List.set_cons_succ, List.set_cons_zero, hma, hmb, hlen]) | (go_big_quiet_op; (try refine ⟨_, fun _ _ => rfl, ?_⟩); refine hK _ ?_; clear hK K)) | (refine treeC_call (v := ?_) ⟨_, H, by repeat first | exact .here | apply Suf.there⟩ rfl rfl (fun w3 H K hK => ?_) ?_; rotate_left 1; (focus (simp only [List.getElem_toArray, List.getElem_cons_succ, List.getElem_cons_zero]; first | (go_big_op; first | exact hK _ (Ext.refl _)))); simp only [List.getElem_toArray, List.getElem_cons_succ, List.getElem_cons_zero, Act.put, List.setIfInBounds_toArray, List.set_cons_succ, List.set_cons_zero, hma, hmb, hlen]) | (refine treeC_skip ⟨_, H, by repeat first | exact .here | apply Suf.there⟩ rfl rfl ?_; simp only [List.getElem_toArray, List.getElem_cons_succ, List.getElem_cons_zero, Act.put, List.setIfInBounds_toArray, List.set_cons_succ, List.set_cons_zero, hma, hmb, hlen])) | (guard_target =~ wpTreeC _ _ _ (Tr.both _ _) _ _ _; refine treeC_both ?_ ?_) | (guard_target =~ wpTreeC _ _ _ (Tr.e _ _) _ _ _; first | (refine treeC_one H rfl rfl (fun w3 H2 K hK => ?_); clear H; (try clear w2); (revert w3; intro w2 H); simp only [List.getElem_toArray, List.getElem_cons_succ, List.getElem_cons_zero]; first | ((first | fail); simp only [Act.put, List.setIfInBounds_toArray, List.set_cons_succ, List.set_cons_zero, hma, hmb, hlen]) | (go_big_op; (first | fail))) | (refine treeC_one_skip (fun w3 hx => ⟨_, H.ext hx, by repeat first | exact .here | apply Suf.there⟩) rfl rfl (fun w3 hx => ?_); replace H := H.ext hx; clear hx; (try clear w2); revert w3; intro w2 H; simp only [List.getElem_toArray, List.getElem_cons_succ, List.getElem_cons_zero, Act.put, List.setIfInBounds_toArray, List.set_cons_succ, List.set_cons_zero, hma, hmb, hlen])) | (guard_target =~ wpTreeC _ _ _ Tr.nil _ _ _; refine treeC_nil H (fun w3 H2 => ?_); clear H; (try clear w2); revert w3; intro w2 H)))
            go_roundg (gk - 1)
            case rel =>
              have e := show q - (gk - 1) = j + 1 by have := HJ.out; omega
              exact ⟨by omega, by rw [e]; simp, _, HPM.out.trans HOS.out, by rw [← oR_set, ← oR_set]; exact (H.sub (by repeat first | exact List.Sublist.refl _ | apply List.Sublist.cons_cons | apply List.Sublist.cons))⟩
            case measure => omega
          · obtain rfl : m = 0 := by omega
            have HOS := Lib.hid hos
            have HOL := Lib.hid hol
            clear hos hol hj
            go_wp2_with (first | fail)
            go_ret
            exact ⟨A5, 0, c5, os, rfl, HOL.out.symm, HOS.out, (H.sub (by repeat first | exact List.Sublist.refl _ | apply List.Sublist.cons_cons | apply List.Sublist.cons))⟩
        · obtain rfl : gk = 0 := by omega
          have HOS := Lib.hid hos
          have HOL := Lib.hid hol
          clear hos hol
          rw [Nat.sub_zero]
          go_wp2_with (first | fail)
          go_ret
          exact ⟨A5, m, c5, os, rfl, HOL.out.symm, HOS.out, (H.sub (by repeat first | exact List.Sublist.refl _ | apply List.Sublist.cons_cons | apply List.Sublist.cons))⟩
end Go.Proofs.Ytlhmjhildlnokaa

/-
  The walk of the document's At.
-/
namespace Go.Proofs.Ytlhmjhildlnokaa
set_option linter.unusedVariables false
set_option linter.unusedSimpArgs false
open Go.RowKit

set_option maxRecDepth 100000 in
set_option maxHeartbeats 8000000 in
theorem refAt_any (vs : List Vt) (A A2 : Option Addr) (n m : Nat) (c c2 : Nat) (F : Nat → Prop) (id i x y : Int) (w : World) (hn : n = vs.length) (hs : Sl F w A (vR vs)) (hl : n ≤ 1000000) (he : (vs.find? fun v => v.id == id) = some ⟨i, ⟨x, y⟩⟩) :
    Calls Try.prog 33 #[.agg #[.slice A n c, .slice A2 m c2], .int .i64 id] w fun e w' => e = .returned (pV x y) ∧ Below w.heap.size w w' := by
  obtain ⟨b0, o0, H, f0⟩ := (Own.start w).addSl (hs.ro (by rfl))
  clear hs
  subst hn
  obtain ⟨k, hk, hv⟩ := find_idx he
  have hrv := fun F w h => refVertex_any vs A A2 vs.length m c c2 F id w rfl h hl
  rw [hk] at hrv
  simp only [ixZ] at hrv
  have hkl : k < vs.length := (List.getElem?_eq_some_iff.1 hv).1
  obtain rfl := H.rdAddr m0 (vR_pos hv)
  have hp := at_vp (A := some ⟨b0, o0, none⟩) (b := b0) (off := o0) hv
  clear hk hv he
  go_enter Try.func33, Try.ntmps33
  have tk0 : True := trivial
  have tk1 : True := trivial
  go_wp2_with (first
    | (guard_target =~ Code.wp _ (Code.region 1 _ true) _ _ _; refine region_tree 1 1 (G := True) (.q 0 (.q 1 (.q 2 (.q 3 (.e 4 (.q 5 (.q 6 (.q 7 (.e 8 .nil))))))))) (by kernel_rfl) (by intro c a d v w h; cases d <;> exact h) (by kernel_rfl) H ⟨trivial⟩ (fun _ w3 H2 => ?_); (clear H; (try clear w2); revert w3; intro w2 H); simp only [List.drop_succ_cons, List.drop_zero])
    | (go_at_call 49; (with_reducible refine (hrv _ _ (by exact H.giveRd m2 f0)).mono ?_); rintro e w3 ⟨rfl, hb⟩; replace H := H.ext hb; clear hb; dsimp only; (refine hK _ _ ⟨_, H, by repeat first | exact .here | apply Suf.there⟩ ?_; clear hK K; (try simp only [Act.put, List.setIfInBounds_toArray, List.set_cons_succ, List.set_cons_zero])))
    | (guard_target =~ wpList _ _ _ (_ :: _) _ _; ((first | (guard_target =~ wpList _ _ _ (Oper.mk _ (.alloc _) _ _ _ _ :: _) _ _; refine BigFrame.wpList_want rfl (fun K hK => ?_); refine o_alloc (z := ?_) rfl ?_ H rfl (fun w3 b2 he H2 => hK _ _ ?_); rotate_left 1; (focus (intro _; simp; with_reducible exact rfl))) | (guard_target =~ wpList _ _ _ (Oper.mk _ (.box _ _) _ _ _ _ :: _) _ _; refine BigFrame.wpList_want rfl (fun K hK => ?_); refine o_box rfl H rfl (fun w3 b2 he H2 => hK _ _ ?_))); clear hK K he; clear H; (try clear w2); revert w3; intro w2 H; simp [Act.eval, Value.cells, setL, List.getD] at H; (first | (clear tk0; rename Nat => b1) | (clear tk1; rename Nat => b2))); simp only [Act.put, List.setIfInBounds_toArray, List.set_cons_succ, List.set_cons_zero])
    | (guard_target =~ wpTree _ _ _ _ _ _ _; first | (guard_target =~ wpTree _ _ _ (Tr.q _ _) _ _ _; first | (refine tree_quiet ⟨_, H, by repeat first | exact .here | apply Suf.there⟩ rfl rfl rfl (fun K hK => ?_); simp only [List.getElem_toArray, List.getElem_cons_succ, List.getElem_cons_zero]; first | (guard_target =~ Oper.quiet _ (Oper.mk _ (.load _ _) _ _ _ _) _ _ _; (first | (refine q_loadC (v := ?_) (row := ?_) rfl rfl ?_ ?_ ?_ (hK _ ?_); rotate_left 2; (repeat first | exact .head _ | apply List.Mem.tail); (exact rfl); (focus (intro _; simp; done))) | (refine q_loadN (cs := ?_) (r := ?_) rfl rfl ?_ ?_ ?_ ?_ (hK _ ?_); rotate_left 2; (with_reducible assumption); (repeat first | exact .head _ | apply List.Mem.tail); (focus (intro _; simp; done)); (focus (intro _; simp; done))) | (refine q_loadNC (row := ?_) rfl rfl ?_ ?_ ?_ (hK _ ?_); rotate_left 1; (repeat first | exact .head _ | apply List.Mem.tail); (focus (intro _; simp; done)); (focus (intro _; simp; done)))); clear hK K; simp only [Act.put, List.setIfInBounds_toArray, List.set_cons_succ, List.set_cons_zero]) | (go_big_quiet_op; (try refine ⟨_, fun _ _ => rfl, ?_⟩); refine hK _ ?_; clear hK K)) | (refine tree_skip ⟨_, H, by repeat first | exact .here | apply Suf.there⟩ rfl rfl ?_; simp only [List.getElem_toArray, List.getElem_cons_succ, List.getElem_cons_zero, Act.put, List.setIfInBounds_toArray, List.set_cons_succ, List.set_cons_zero])) | (guard_target =~ wpTree _ _ _ (Tr.both _ _) _ _ _; refine tree_both ?_ ?_) | (guard_target =~ wpTree _ _ _ (Tr.e _ _) _ _ _; first | (refine tree_one rfl rfl (fun K hK => ?_); simp only [List.getElem_toArray, List.getElem_cons_succ, List.getElem_cons_zero]; first | ((guard_target =~ Oper.wp _ (Oper.mk _ (.store _ _ _) _ _ _ _) _ _ _ _; refine o_store (l' := ?_) (row := ?_) rfl rfl H rfl ?_ ?_ ?_ ?_ (fun w3 H2 => hK _ _ ⟨_, H2, ?_⟩ ?_); rotate_left 2; (exact r0); (focus (intro _; simp [Act.eval, Value.cells]; done)); (focus (simp [Act.eval, Value.cells]; done)); (exact rfl); (guard_target =~ Suf _ _; repeat first | exact .here | apply Suf.there); clear hK K; clear H; (try clear w2); revert w3; intro w2 H; simp [Act.eval, Value.cells, setL, List.getD] at H); simp only [Act.put, List.setIfInBounds_toArray, List.set_cons_succ, List.set_cons_zero]) | (go_big_op; (skip))) | (refine tree_one_skip ⟨_, H, by repeat first | exact .here | apply Suf.there⟩ rfl rfl ?_; simp only [List.getElem_toArray, List.getElem_cons_succ, List.getElem_cons_zero, Act.put, List.setIfInBounds_toArray, List.set_cons_succ, List.set_cons_zero])) | (guard_target =~ wpTree _ _ _ Tr.nil _ _ _; refine tree_nil ?_)))
  have hr := H.loadVarN (P := Try.prog) (ty := 47) (b := b2) m0 (by simp) (by simp)
  exact bodyPost_ret (v := pV x y) (by simp [results, Try.results33, asAddr, hr]) rfl ⟨rfl, H.below⟩
end Go.Proofs.Ytlhmjhildlnokaa
