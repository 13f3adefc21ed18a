/-
  The document's plan: when it is right, as a list's laws.
-/
import Derived.Test.YtlhmjhildlnokaaPlan6a
import Derived.Test.YtlhmjhildlnokaaPlan4
import Derived.Test.YtlhmjhildlnokaaGeo2
import Derived.Test.YtlhmjhildlnokaaTrap6
import Derived.Test.YtlhmjhildlnokaaTrap5b
import Derived.Test.YtlhmjhildlnokaaTrap3
namespace Go.Proofs.Ytlhmjhildlnokaa
set_option linter.unusedVariables false
set_option linter.unusedSimpArgs false
open Go.RowKit

def prevV (vs : List Vt) (j : Nat) : Int := ((vs[j - 1]?).map (·.id)).getD 0
def prevE (es : List Eg) (j : Nat) : Int := ((es[j - 1]?).map (·.id)).getD 0
def vOKr (vs : List Vt) (j : Nat) : Bool :=
  match vs[j]? with
  | some v => !((decide (v.id < 1) || ((decide (0 < j) && decide (v.id ≤ prevV vs j)) || !inB v.p)) || (vs.take j).any fun u => decide (u.p = v.p))
  | none => true
def eOKr (vs : List Vt) (es : List Eg) (j : Nat) : Bool :=
  match es[j]? with
  | some e => !(decide (e.id < 1) || ((decide (0 < j) && decide (e.id ≤ prevE es j)) || (e.a == e.b || (!(vs.find? fun v => v.id == e.a).isSome || (!(vs.find? fun v => v.id == e.b).isSome ||
      (linksB (es.take j) e.a e.b || (onWayR vs (rpt vs e.a) (rpt vs e.b) || meetsR vs (es.take j) (rpt vs e.a) (rpt vs e.b))))))))
  | none => true
def rightR (vs : List Vt) (es : List Eg) : Bool := !(decide (512 < vs.length) || decide (1024 < es.length)) && ((List.range vs.length).all (vOKr vs) && (List.range es.length).all (eOKr vs es))
theorem idx_none {α : Type} {f : α → Bool} {l : List α} (h : l.find? f = none) : l.findIdx? f = none := by
  rw [List.findIdx?_eq_none_iff]
  intro x hx
  have := List.find?_eq_none.1 h x hx
  simpa using this
theorem rangeR_step {f : Nat → Bool} {j : Nat} (h : (List.range j).all f = true) (hf : f j = true) : (List.range (j + 1)).all f = true := by
  rw [List.range_succ, List.all_append, h]; simp [hf]
theorem rangeR_no {f : Nat → Bool} {j n : Nat} (hj : j < n) (hf : f j = false) : (List.range n).all f = false := by
  rw [Bool.eq_false_iff]
  intro h
  have := List.all_eq_true.1 h j (List.mem_range.2 hj)
  rw [hf] at this; cases this
theorem rightR_len (vs : List Vt) (es : List Eg) (h : (decide (512 < vs.length) || decide (1024 < es.length)) = true) : rightR vs es = false := by unfold rightR; rw [h]; rfl
theorem rightR_v (vs : List Vt) (es : List Eg) {j : Nat} (hj : j < vs.length) (h : vOKr vs j = false) : rightR vs es = false := by unfold rightR; rw [rangeR_no hj h]; simp
theorem rightR_e (vs : List Vt) (es : List Eg) {j : Nat} (hj : j < es.length) (h : eOKr vs es j = false) : rightR vs es = false := by unfold rightR; rw [rangeR_no hj h]; simp
theorem rightR_y (vs : List Vt) (es : List Eg) (h1 : vs.length ≤ 512) (h2 : es.length ≤ 1024) (h3 : (List.range vs.length).all (vOKr vs) = true) (h4 : (List.range es.length).all (eOKr vs es) = true) : rightR vs es = true := by
  unfold rightR; rw [h3, h4]
  simp; omega
theorem vokr_in {vs : List Vt} (h : (List.range vs.length).all (vOKr vs) = true) : ∀ v ∈ vs, inB v.p = true := by
  intro v hv
  obtain ⟨k, hk⟩ := List.getElem?_of_mem hv
  have := List.all_eq_true.1 h k (List.mem_range.2 (List.getElem?_eq_some_iff.1 hk).1)
  unfold vOKr at this
  rw [hk] at this
  simp at this
  exact this.1.2.2
theorem eokr_av {vs : List Vt} {es : List Eg} {j : Nat} (h : (List.range j).all (eOKr vs es) = true) : ∀ e ∈ es.take j, (∃ v, (vs.find? fun v => v.id == e.a) = some v) ∧ ∃ v, (vs.find? fun v => v.id == e.b) = some v := by
  intro e he
  obtain ⟨k, hk⟩ := List.getElem?_of_mem he
  rw [List.getElem?_take] at hk
  split at hk
  · rename_i hkj
    have := List.all_eq_true.1 h k (List.mem_range.2 hkj)
    unfold eOKr at this
    rw [hk] at this
    simp only [Bool.not_eq_true', Bool.or_eq_false_iff, Bool.not_eq_false'] at this
    obtain ⟨_, _, _, h1, h2, _⟩ := this
    exact ⟨Option.isSome_iff_exists.1 h1, Option.isSome_iff_exists.1 h2⟩
  · cases hk
end Go.Proofs.Ytlhmjhildlnokaa

/-
  Plans: the plain law. When the program calls a plan right, so does the document. No walk stands here.
-/
namespace Go.Proofs.Ytlhmjhildlnokaa
set_option linter.unusedVariables false
set_option linter.unusedSimpArgs false

theorem all_same {f g : Nat → Bool} : ∀ (n : Nat), (∀ j, j < n → (List.range j).all g = true → f j = g j) → (List.range n).all f = (List.range n).all g
  | 0, _ => rfl
  | n + 1, h => by
    have ih := all_same n fun j hj => h j (by omega)
    rw [List.range_succ, List.all_append, List.all_append, ih]
    cases hg : (List.range n).all g with
    | false => rfl
    | true => simp [h n (by omega) hg]
theorem met_any (p : Pt) : ∀ (l : List Vt) (m : Pt → Option Bool), ((l.foldl (fun m v => upd m v.p true) m) p).getD false = ((m p).getD false || l.any fun u => decide (u.p = p))
  | [], m => by simp
  | v :: l, m => by
    rw [List.foldl_cons, met_any p l]
    by_cases h : v.p = p
    · have : upd m v.p true p = some true := by unfold upd; rw [if_pos h.symm]
      rw [this]; simp [h]
    · have : upd m v.p true p = m p := by unfold upd; rw [if_neg (fun e => h e.symm)]
      rw [this]; simp [h]
theorem metM_any (l : List Vt) (p : Pt) : (metM l p).getD false = l.any fun u => decide (u.p = p) := by
  have := met_any p l (fun _ => none)
  simpa [metM] using this
def pairP (a b : Int) : Pt := ⟨min a b, max a b⟩
theorem pair_same (a b c d : Int) : decide (pairP c d = pairP a b) = ((c == a && d == b) || (c == b && d == a)) := by
  rw [Bool.eq_iff_iff]
  simp only [pairP, decide_eq_true_eq, Pt.mk.injEq, Bool.or_eq_true, Bool.and_eq_true, beq_iff_eq]
  omega
theorem pair_any (a b : Int) : ∀ (l : List Eg) (m : Pt → Option Bool), ((l.foldl (fun m e => upd m ⟨min e.a e.b, max e.a e.b⟩ true) m) (pairP a b)).getD false = ((m (pairP a b)).getD false || linksB l a b)
  | [], m => by simp [linksB]
  | e :: l, m => by
    rw [List.foldl_cons, pair_any a b l]
    have hs := pair_same a b e.a e.b
    have hl : linksB (e :: l) a b = (((e.a == a && e.b == b) || (e.a == b && e.b == a)) || linksB l a b) := rfl
    rw [hl, ← hs]
    by_cases h : pairP e.a e.b = pairP a b
    · have : upd m ⟨min e.a e.b, max e.a e.b⟩ true (pairP a b) = some true := if_pos h.symm
      rw [this]; simp [h]
    · have : upd m ⟨min e.a e.b, max e.a e.b⟩ true (pairP a b) = m (pairP a b) := if_neg (fun q => h q.symm)
      rw [this]; simp [h]
theorem pairM_any (l : List Eg) (a b : Int) : (pairM l ⟨min a b, max a b⟩).getD false = linksB l a b := by
  have := pair_any a b l (fun _ => none)
  simpa [pairM, pairP] using this
/-- What the vertices' test says. -/
structure VOK (vs : List Vt) (j : Nat) (v : Vt) : Prop where
  pos : 1 ≤ v.id
  inr : inB v.p = true
  prev : 0 < j → prevV vs j < v.id
  new : ∀ (i : Nat) (u : Vt), i < j → vs[i]? = some u → u.p ≠ v.p
theorem vok_iff {vs : List Vt} {j : Nat} {v : Vt} (h : vs[j]? = some v) : vOKr vs j = true ↔ VOK vs j v := by
  unfold vOKr
  rw [h]
  simp only [Bool.not_eq_true', Bool.or_eq_false_iff, decide_eq_false_iff_not, Bool.and_eq_false_iff, Bool.not_eq_false', List.any_eq_false, decide_eq_true_eq]
  constructor
  · intro ⟨⟨h1, h2, h3⟩, h4⟩
    refine ⟨by omega, h3, fun hj => ?_, fun i u hi hu => h4 u (List.mem_of_getElem? (i := i) (by rw [List.getElem?_take, if_pos hi]; exact hu))⟩
    rcases h2 with h2 | h2
    · exact absurd hj h2
    · omega
  · intro ⟨h1, h2, h3, h4⟩
    refine ⟨⟨by omega, ?_, h2⟩, fun u hu => ?_⟩
    · by_cases hj : 0 < j
      · exact .inr (by have := h3 hj; omega)
      · exact .inl hj
    · obtain ⟨i, hi⟩ := List.getElem?_of_mem hu
      rw [List.getElem?_take] at hi
      split at hi
      · rename_i hij
        exact h4 i u hij hi
      · cases hi
theorem lastV_prev {vs : List Vt} {j : Nat} (hj : 0 < j) (hl : j ≤ vs.length) : lastV (vs.take j) = prevV vs j := by
  obtain ⟨k, rfl⟩ : ∃ k, j = k + 1 := ⟨j - 1, by omega⟩
  have hk : vs[k]? = some vs[k] := List.getElem?_eq_getElem (by omega)
  rw [lastV_step hk]
  unfold prevV
  rw [show k + 1 - 1 = k from rfl, hk]; rfl
theorem lastE_prev {es : List Eg} {j : Nat} (hj : 0 < j) (hl : j ≤ es.length) : lastE (es.take j) = prevE es j := by
  obtain ⟨k, rfl⟩ : ∃ k, j = k + 1 := ⟨j - 1, by omega⟩
  have hk : es[k]? = some es[k] := List.getElem?_eq_getElem (by omega)
  rw [lastE_step hk]
  unfold prevE
  rw [show k + 1 - 1 = k from rfl, hk]; rfl
theorem vOK_same (vs : List Vt) (j : Nat) (h : (List.range j).all (vOKr vs) = true) : vOK vs j = vOKr vs j := by
  unfold vOK vOKr
  cases hv : vs[j]? with
  | none => rfl
  | some v =>
    have hjl : j < vs.length := (List.getElem?_eq_some_iff.1 hv).1
    simp only [metM_any]
    have e1 : decide (v.id ≤ lastV (vs.take j)) = (decide (v.id < 1) || (decide (0 < j) && decide (v.id ≤ prevV vs j))) := by
      by_cases hj : 0 < j
      · rw [lastV_prev hj (by omega)]
        obtain ⟨k, rfl⟩ : ∃ k, j = k + 1 := ⟨j - 1, by omega⟩
        have hk : vs[k]? = some vs[k] := List.getElem?_eq_getElem (by omega)
        have := (vok_iff hk).1 (List.all_eq_true.1 h k (List.mem_range.2 (by omega)))
        have hp : prevV vs (k + 1) = vs[k].id := by unfold prevV; rw [show k + 1 - 1 = k from rfl, hk]; rfl
        rw [hp, Bool.eq_iff_iff]
        have := this.pos
        simp only [decide_eq_true_eq, Bool.or_eq_true, Bool.and_eq_true]
        omega
      · obtain rfl : j = 0 := by omega
        rw [Bool.eq_iff_iff]
        have e0 : lastV (vs.take 0) = 0 := rfl
        rw [e0]
        simp only [decide_eq_true_eq, Bool.or_eq_true, Bool.and_eq_true]
        omega
    rw [e1]
    simp only [Bool.or_assoc]
/-! ### Right vertices -/
structure RightV (vs : List Vt) : Prop where
  each : ∀ v ∈ vs, 1 ≤ v.id ∧ inB v.p = true
  two : vs.Pairwise fun u v => u.id < v.id ∧ u.p ≠ v.p
theorem pairwise_get {α : Type} {R : α → α → Prop} (l : List α) : l.Pairwise R ↔ ∀ (i j : Nat) (u v : α), i < j → l[i]? = some u → l[j]? = some v → R u v := by
  rw [List.pairwise_iff_getElem]
  constructor
  · intro h i j u v hij hu hv
    obtain ⟨hi, rfl⟩ := List.getElem?_eq_some_iff.1 hu
    obtain ⟨hj, rfl⟩ := List.getElem?_eq_some_iff.1 hv
    exact h i j hi hj hij
  · intro h i j hi hj hij
    exact h i j _ _ hij (List.getElem?_eq_getElem hi) (List.getElem?_eq_getElem hj)
theorem rightV_iff (vs : List Vt) : (List.range vs.length).all (vOKr vs) = true ↔ RightV vs := by
  constructor
  · intro h
    have key : ∀ j v, vs[j]? = some v → VOK vs j v := fun j v hv => (vok_iff hv).1 (List.all_eq_true.1 h j (List.mem_range.2 (List.getElem?_eq_some_iff.1 hv).1))
    refine ⟨fun v hv => ?_, ?_⟩
    · obtain ⟨j, hj⟩ := List.getElem?_of_mem hv
      exact ⟨(key j v hj).pos, (key j v hj).inr⟩
    · rw [pairwise_get]
      have lt : ∀ (j i : Nat) (u v : Vt), i < j → vs[i]? = some u → vs[j]? = some v → u.id < v.id := by
        intro j
        induction j with
        | zero => intro i u v h; omega
        | succ j ih =>
          intro i u v hij hu hv
          have hjl : j < vs.length := by have := (List.getElem?_eq_some_iff.1 hv).1; omega
          have hk : vs[j]? = some vs[j] := List.getElem?_eq_getElem hjl
          have hp : prevV vs (j + 1) = vs[j].id := by unfold prevV; rw [show j + 1 - 1 = j from rfl, hk]; rfl
          have h1 := (key (j + 1) v hv).prev (by omega)
          rw [hp] at h1
          by_cases e : i = j
          · subst e
            rw [hk] at hu; injection hu with hu; rw [← hu]; exact h1
          · have := ih i u _ (by omega) hu hk
            omega
      intro i j u v hij hu hv
      exact ⟨lt j i u v hij hu hv, (key j v hv).new i u hij hu⟩
  · intro ⟨h1, h2⟩
    rw [pairwise_get] at h2
    rw [List.all_eq_true]
    intro j hj
    have hj := List.mem_range.1 hj
    have hv : vs[j]? = some vs[j] := List.getElem?_eq_getElem hj
    rw [vok_iff hv]
    have := h1 _ (List.mem_of_getElem? hv)
    refine ⟨this.1, this.2, fun h0 => ?_, fun i u hij hu => (h2 i j u _ hij hu hv).2⟩
    obtain ⟨k, rfl⟩ : ∃ k, j = k + 1 := ⟨j - 1, by omega⟩
    have hk : vs[k]? = some vs[k] := List.getElem?_eq_getElem (by omega)
    have hp : prevV vs (k + 1) = vs[k].id := by unfold prevV; rw [show k + 1 - 1 = k from rfl, hk]; rfl
    rw [hp]
    exact (h2 k (k + 1) _ _ (by omega) hk hv).1
/-! ### Where a vertex is -/
theorem at_find (id : Int) : ∀ (l : List Vt) (m : Int → Option Pt), (l.Pairwise fun u v => u.id < v.id ∧ u.p ≠ v.p) → (l.foldl (fun m v => upd m v.id v.p) m) id = ((l.find? fun v => v.id == id).map (·.p)).or (m id)
  | [], m, _ => by simp
  | v :: l, m, h => by
    obtain ⟨h1, h2⟩ := List.pairwise_cons.1 h
    rw [List.foldl_cons, at_find id l _ h2]
    by_cases hv : v.id = id
    · have hn : (l.find? fun u => u.id == id) = none := by
        rw [List.find?_eq_none]
        intro u hu
        have := (h1 u hu).1
        simp only [beq_iff_eq]; omega
      rw [hn, List.find?_cons_of_pos (by simpa using hv)]
      simp [upd, hv]
    · rw [List.find?_cons_of_neg (by simpa using hv)]
      have : upd m v.id v.p id = m id := by unfold upd; rw [if_neg (fun e => hv e.symm)]
      rw [this]
theorem atM_find {vs : List Vt} (h : RightV vs) (id : Int) : atM vs id = (vs.find? fun v => v.id == id).map (·.p) := by
  have := at_find id vs (fun _ => none) h.two
  simpa [atM] using this
theorem atP_rpt {vs : List Vt} (h : RightV vs) (id : Int) : atP vs id = rpt vs id := by
  unfold atP rpt
  rw [atM_find h]
theorem atM_some {vs : List Vt} (h : RightV vs) (id : Int) : (atM vs id).isSome = (vs.find? fun v => v.id == id).isSome := by rw [atM_find h, Option.isSome_map]
/-- The point of a vertex that is there. -/
theorem rpt_in {vs : List Vt} (h : RightV vs) {id : Int} (hs : (vs.find? fun v => v.id == id).isSome = true) : inB (rpt vs id) = true := by
  obtain ⟨v, hv⟩ := Option.isSome_iff_exists.1 hs
  unfold rpt
  rw [hv]
  exact (h.each v (List.mem_of_find?_eq_some hv)).2
theorem rpt_ne {vs : List Vt} (h : RightV vs) {a b : Int} (hab : a ≠ b) (ha : (vs.find? fun v => v.id == a).isSome = true) (hb : (vs.find? fun v => v.id == b).isSome = true) : rpt vs a ≠ rpt vs b := by
  obtain ⟨v, hv⟩ := Option.isSome_iff_exists.1 ha
  obtain ⟨w, hw⟩ := Option.isSome_iff_exists.1 hb
  unfold rpt
  rw [hv, hw]
  have h1 := List.find?_some hv
  have h2 := List.find?_some hw
  simp only [beq_iff_eq] at h1 h2
  obtain ⟨i, hi⟩ := List.getElem?_of_mem (List.mem_of_find?_eq_some hv)
  obtain ⟨j, hj⟩ := List.getElem?_of_mem (List.mem_of_find?_eq_some hw)
  have h2' := (pairwise_get vs).1 h.two
  intro e
  rcases Nat.lt_trichotomy i j with q | q | q
  · exact (h2' i j v w q hi hj).2 e
  · subst q
    rw [hi] at hj
    injection hj with hj
    rw [hj] at h1
    omega
  · exact (h2' j i w v q hj hi).2 e.symm
theorem onB_R {p a b : Pt} (hp : inB p = true) (ha : inB a = true) (hb : inB b = true) : onB p a b = onR p a b := by
  unfold onB
  rw [hp, ha, hb, onL_onR]; rfl
theorem meetB_R {a b c d : Pt} (ha : inB a = true) (hb : inB b = true) (hc : inB c = true) (hd : inB d = true) (h1 : a ≠ b) (h2 : c ≠ d) : meetB a b c d = meetR a b c d := by
  unfold meetB
  rw [ha, hb, hc, hd, meet_eq a b c d h1 h2]
  simp [h1, h2]
theorem onWay_R {vs : List Vt} (h : RightV vs) {a b : Pt} (ha : inB a = true) (hb : inB b = true) : (vs.any fun v => onB v.p a b) = onWayR vs a b := by
  unfold onWayR
  rw [Bool.eq_iff_iff, List.any_eq_true, List.any_eq_true]
  constructor
  · rintro ⟨v, hv, h1⟩; exact ⟨v, hv, by rw [← onB_R (h.each v hv).2 ha hb]; exact h1⟩
  · rintro ⟨v, hv, h1⟩; exact ⟨v, hv, by rw [onB_R (h.each v hv).2 ha hb]; exact h1⟩
/-- Edges with ends that are there. -/
def EndsIn (vs : List Vt) (es : List Eg) : Prop := ∀ e ∈ es, e.a ≠ e.b ∧ (vs.find? fun v => v.id == e.a).isSome = true ∧ (vs.find? fun v => v.id == e.b).isSome = true
theorem cross_R {vs : List Vt} (h : RightV vs) {es : List Eg} (he : EndsIn vs es) {a b : Pt} (ha : inB a = true) (hb : inB b = true) (hab : a ≠ b) : crossB vs es a b = meetsR vs es a b := by
  unfold crossB meetsR
  rw [Bool.eq_iff_iff, List.any_eq_true, List.any_eq_true]
  have key : ∀ e ∈ es, meetB a b (atP vs e.a) (atP vs e.b) = meetR a b (rpt vs e.a) (rpt vs e.b) := by
    intro e hm
    obtain ⟨h1, h2, h3⟩ := he e hm
    rw [atP_rpt h, atP_rpt h]
    exact meetB_R ha hb (rpt_in h h2) (rpt_in h h3) hab (rpt_ne h h1 h2 h3)
  constructor
  · rintro ⟨e, hv, h1⟩; exact ⟨e, hv, by rw [← key e hv]; exact h1⟩
  · rintro ⟨e, hv, h1⟩; exact ⟨e, hv, by rw [key e hv]; exact h1⟩
/-! ### Right edges -/
structure EOK (vs : List Vt) (es : List Eg) (j : Nat) (e : Eg) : Prop where
  pos : 1 ≤ e.id
  prev : 0 < j → prevE es j < e.id
  ends : e.a ≠ e.b ∧ (vs.find? fun v => v.id == e.a).isSome = true ∧ (vs.find? fun v => v.id == e.b).isSome = true
  free : onWayR vs (rpt vs e.a) (rpt vs e.b) = false
  new : linksB (es.take j) e.a e.b = false
  apart : meetsR vs (es.take j) (rpt vs e.a) (rpt vs e.b) = false
theorem eok_iff {vs : List Vt} {es : List Eg} {j : Nat} {e : Eg} (h : es[j]? = some e) : eOKr vs es j = true ↔ EOK vs es j e := by
  unfold eOKr
  rw [h]
  simp only [Bool.not_eq_true', Bool.or_eq_false_iff, decide_eq_false_iff_not, Bool.and_eq_false_iff, Bool.not_eq_false', beq_eq_false_iff_ne]
  constructor
  · intro ⟨h1, h2, h3, h4, h5, h6, h7, h8⟩
    refine ⟨by omega, fun hj => ?_, ⟨h3, h4, h5⟩, h7, h6, h8⟩
    rcases h2 with h2 | h2
    · exact absurd hj h2
    · omega
  · intro ⟨h1, h2, ⟨h3, h4, h5⟩, h7, h6, h8⟩
    refine ⟨by omega, ?_, h3, h4, h5, h6, h7, h8⟩
    by_cases hj : 0 < j
    · exact .inr (by have := h2 hj; omega)
    · exact .inl hj
theorem ends_take {vs : List Vt} {es : List Eg} {j : Nat} (h : (List.range j).all (eOKr vs es) = true) : EndsIn vs (es.take j) := by
  intro e he
  obtain ⟨k, hk⟩ := List.getElem?_of_mem he
  rw [List.getElem?_take] at hk
  split at hk
  · rename_i hkj
    exact ((eok_iff hk).1 (List.all_eq_true.1 h k (List.mem_range.2 hkj))).ends
  · cases hk
theorem eOK_same {vs : List Vt} (hv : RightV vs) (es : List Eg) (j : Nat) (h : (List.range j).all (eOKr vs es) = true) : eOK vs es j = eOKr vs es j := by
  unfold eOK eOKr
  cases he : es[j]? with
  | none => rfl
  | some e =>
    have hjl : j < es.length := (List.getElem?_eq_some_iff.1 he).1
    simp only [pairM_any, atM_some hv, atP_rpt hv]
    have e1 : decide (e.id ≤ lastE (es.take j)) = (decide (e.id < 1) || (decide (0 < j) && decide (e.id ≤ prevE es j))) := by
      by_cases hj : 0 < j
      · rw [lastE_prev hj (by omega)]
        obtain ⟨k, rfl⟩ : ∃ k, j = k + 1 := ⟨j - 1, by omega⟩
        have hk : es[k]? = some es[k] := List.getElem?_eq_getElem (by omega)
        have := (eok_iff hk).1 (List.all_eq_true.1 h k (List.mem_range.2 (by omega)))
        have hp : prevE es (k + 1) = es[k].id := by unfold prevE; rw [show k + 1 - 1 = k from rfl, hk]; rfl
        rw [hp, Bool.eq_iff_iff]
        have := this.pos
        simp only [decide_eq_true_eq, Bool.or_eq_true, Bool.and_eq_true]
        omega
      · obtain rfl : j = 0 := by omega
        rw [Bool.eq_iff_iff]
        have e0 : lastE (es.take 0) = 0 := rfl
        rw [e0]
        simp only [decide_eq_true_eq, Bool.or_eq_true, Bool.and_eq_true]
        omega
    rw [e1]
    cases ha : (vs.find? fun v => v.id == e.a).isSome with
    | false => simp
    | true =>
      cases hb : (vs.find? fun v => v.id == e.b).isSome with
      | false => simp
      | true =>
        by_cases hab : e.a = e.b
        · simp [hab]
        · rw [onWay_R hv (rpt_in hv ha) (rpt_in hv hb), cross_R hv (ends_take h) (rpt_in hv ha) (rpt_in hv hb) (rpt_ne hv hab ha hb)]
          have : (e.a == e.b) = false := by simpa using hab
          rw [this]
          simp only [Bool.or_assoc, Bool.not_true, Bool.false_or]
theorem right_same (vs : List Vt) (es : List Eg) : rightB vs es = rightR vs es := by
  unfold rightB rightR
  rw [all_same vs.length fun j _ h => vOK_same vs j h]
  cases hv : (List.range vs.length).all (vOKr vs) with
  | false => simp
  | true => rw [all_same es.length fun j _ h => eOK_same ((rightV_iff vs).1 hv) es j h]
/-! ### Right plans, by twos -/
structure RightP (vs : List Vt) (es : List Eg) : Prop where
  few : vs.length ≤ 512 ∧ es.length ≤ 1024
  verts : RightV vs
  each : ∀ e ∈ es, 1 ≤ e.id ∧ (e.a ≠ e.b ∧ (vs.find? fun v => v.id == e.a).isSome = true ∧ (vs.find? fun v => v.id == e.b).isSome = true) ∧ onWayR vs (rpt vs e.a) (rpt vs e.b) = false
  two : es.Pairwise fun e f => e.id < f.id ∧ ((e.a == f.a && e.b == f.b) || (e.a == f.b && e.b == f.a)) = false ∧ meetR (rpt vs f.a) (rpt vs f.b) (rpt vs e.a) (rpt vs e.b) = false
theorem any_take {α : Type} {l : List α} {j : Nat} {f : α → Bool} : (l.take j).any f = false ↔ ∀ (i : Nat) (u : α), i < j → l[i]? = some u → f u = false := by
  rw [List.any_eq_false]
  constructor
  · intro h i u hi hu
    have := h u (List.mem_of_getElem? (i := i) (by rw [List.getElem?_take, if_pos hi]; exact hu))
    simpa using this
  · intro h u hu
    obtain ⟨i, hi⟩ := List.getElem?_of_mem hu
    rw [List.getElem?_take] at hi
    split at hi
    · rename_i hij
      simpa using h i u hij hi
    · cases hi
theorem right_iff (vs : List Vt) (es : List Eg) : rightR vs es = true ↔ RightP vs es := by
  unfold rightR
  simp only [Bool.and_eq_true, Bool.not_eq_true', Bool.or_eq_false_iff, decide_eq_false_iff_not, Nat.not_lt, rightV_iff]
  constructor
  · intro ⟨h0, hv, h⟩
    have key : ∀ j e, es[j]? = some e → EOK vs es j e := fun j e he => (eok_iff he).1 (List.all_eq_true.1 h j (List.mem_range.2 (List.getElem?_eq_some_iff.1 he).1))
    refine ⟨h0, hv, fun e he => ?_, ?_⟩
    · obtain ⟨j, hj⟩ := List.getElem?_of_mem he
      have := key j e hj
      exact ⟨this.pos, this.ends, this.free⟩
    · rw [pairwise_get]
      have lt : ∀ (j i : Nat) (u v : Eg), i < j → es[i]? = some u → es[j]? = some v → u.id < v.id := by
        intro j
        induction j with
        | zero => intro i u v h; omega
        | succ j ih =>
          intro i u v hij hu hv
          have hjl : j < es.length := by have := (List.getElem?_eq_some_iff.1 hv).1; omega
          have hk : es[j]? = some es[j] := List.getElem?_eq_getElem hjl
          have hp : prevE es (j + 1) = es[j].id := by unfold prevE; rw [show j + 1 - 1 = j from rfl, hk]; rfl
          have h1 := (key (j + 1) v hv).prev (by omega)
          rw [hp] at h1
          by_cases e : i = j
          · subst e
            rw [hk] at hu; injection hu with hu; rw [← hu]; exact h1
          · have := ih i u _ (by omega) hu hk
            omega
      intro i j u v hij hu hv
      exact ⟨lt j i u v hij hu hv, any_take.1 (key j v hv).new i u hij hu, any_take.1 (key j v hv).apart i u hij hu⟩
  · intro ⟨h0, hv, h1, h2⟩
    rw [pairwise_get] at h2
    refine ⟨h0, hv, ?_⟩
    rw [List.all_eq_true]
    intro j hj
    have hj := List.mem_range.1 hj
    have he : es[j]? = some es[j] := List.getElem?_eq_getElem hj
    rw [eok_iff he]
    have := h1 _ (List.mem_of_getElem? he)
    refine ⟨this.1, fun h0 => ?_, this.2.1, this.2.2, any_take.2 fun i u hij hu => (h2 i j u _ hij hu he).2.1, any_take.2 fun i u hij hu => (h2 i j u _ hij hu he).2.2⟩
    obtain ⟨k, rfl⟩ : ∃ k, j = k + 1 := ⟨j - 1, by omega⟩
    have hk : es[k]? = some es[k] := List.getElem?_eq_getElem (by omega)
    have hp : prevE es (k + 1) = es[k].id := by unfold prevE; rw [show k + 1 - 1 = k from rfl, hk]; rfl
    rw [hp]
    exact (h2 k (k + 1) _ _ (by omega) hk he).1
end Go.Proofs.Ytlhmjhildlnokaa

/-
  The walk of trap.Build: the index of a right plan whose edges come once each, in any order.
-/
namespace Go.Proofs.Ytlhmjhildlnokaa
set_option linter.unusedVariables false
set_option linter.unusedSimpArgs false
open Go.RowKit Go.Sort Go.Shelf

/-- An index, as lists. -/
structure IxS where
  N : List Nd
  P : List Pc
  S : List (Int × Sg)
  E : List (Pt × Bool)
def ix0 : IxS := ⟨[nd0], [pc0], [], []⟩
def PutR (X : IxS) (id : Int) (s : Sg) (Y : IxS) : Prop := ∃ all, CrossP X.P X.S s all ∧ Y.N = (roundsS id s all all.length ⟨X.N, X.P, 0, 0⟩).N ∧ Y.P = (roundsS id s all all.length ⟨X.N, X.P, 0, 0⟩).P ∧ Y.S = (id, s) :: X.S ∧ Y.E = (s.b, true) :: cutA ((s.a, true) :: cutA X.E s.a) s.b
/-- An index into which these lines were put, the last one first. -/
inductive PutsR : List (Int × Sg) → IxS → Prop
  | nil : PutsR [] ix0
  | put {l : List (Int × Sg)} {X Y : IxS} {id : Int} {s : Sg} (h : PutsR l X) (hid : id ∉ l.map (·.1)) (hp : PutR X id s Y) : PutsR ((id, s) :: l) Y
theorem PutsR.S_ {l : List (Int × Sg)} {X : IxS} (h : PutsR l X) : X.S = l := by
  induction h with
  | nil => rfl
  | put h hid hp ih => obtain ⟨_, _, _, _, e, _⟩ := hp; rw [e, ih]
theorem PutsR.ixN {l : List (Int × Sg)} {X : IxS} (h : PutsR l X) : l.length ≤ 40 → IxN l.length X.N X.P := by
  induction h with
  | nil => intro _; exact ixN_0
  | put h hid hp ih =>
    intro hl
    simp only [List.length_cons] at hl ⊢
    obtain ⟨all, h1, h2, h3, _⟩ := hp
    rw [h2, h3]
    exact ixN_put (ih (by omega)) (by omega) h1
abbrev xL (bx ks ke cn cp dn dp : Nat) (X : IxS) (l : List Res) : List Res := xB bx ks ke X.N.length X.P.length cn cp dn dp :: nG dn X.N.length cn X.N :: pG dp X.P.length cp X.P :: mSeg ks X.S :: mEnd ke X.E :: l
theorem put2_any {B : Nat} {w0 w : World} {l : List Res} {bx ks ke cn cp dn dp : Nat} {X : IxS} {L : List (Int × Sg)} (id : Int) (s : Sg) (hL : PutsR L X) (hl : L.length < 40) (hid : id ∉ L.map (·.1)) (H : Own B w0 w (xL bx ks ke cn cp dn dp X l)) :
    Calls Try.prog 62 #[.pointer (some ⟨bx, 0, none⟩), .int .i64 id, sgV s] w fun e w' => e = .returned (.tuple #[]) ∧ ∃ Y dn' dp' cn' cp', PutsR ((id, s) :: L) Y ∧ Own B w0 w' (xL bx ks ke cn' cp' dn' dp' Y l) := by
  have I := hL.ixN (by omega)
  have h1 := I.pl
  have h2 := I.nl
  refine (put_any id s I.wf I.p0 I.n0 (by omega) (by omega) H).mono ?_
  rintro e w' ⟨rfl, all, Y, dn', dp', cn', cp', hc, rfl, H'⟩
  have hcut : cutA X.S id = X.S := cutA_none (by rw [hL.S_]; exact hid)
  rw [hcut] at H'
  exact ⟨rfl, ⟨_, _, (id, s) :: X.S, _⟩, dn', dp', cn', cp', .put hL hid ⟨all, hc, rfl, rfl, rfl, rfl⟩, H'⟩
def segI (vs : List Vt) (es : List Eg) (id : Int) : Sg := match es.find? (fun e => e.id == id) with | some e => segZ vs e.a e.b | none => zSg
def segsOf (vs : List Vt) (es : List Eg) (os : List Int) : List (Int × Sg) := os.map fun id => (id, segI vs es id)
theorem segs_keys (vs : List Vt) (es : List Eg) (os : List Int) : (segsOf vs es os).map (·.1) = os := by
  unfold segsOf; rw [List.map_map]
  exact List.map_id'' (fun _ => rfl) os
/-- The numbers of all edges, each once. -/
def OrdP (es : List Eg) (os : List Int) : Prop := os.length = es.length ∧ (∀ id ∈ os, (es.find? fun e => e.id == id).isSome = true) ∧ os.Nodup
instance (es : List Eg) (os : List Int) : Decidable (OrdP es os) := by unfold OrdP; exact inferInstance
def buildB (vs : List Vt) (es : List Eg) (os : List Int) : Bool := rightB vs es && decide (OrdP es os)
/-- What is known behind j of them. -/
structure BldI (vs : List Vt) (es : List Eg) (os : List Int) (X : IxS) : Prop where
  puts : PutsR (segsOf vs es os).reverse X
  ids : ∀ id ∈ os, (es.find? fun e => e.id == id).isSome = true
  nodup : os.Nodup
theorem bld_get {vs : List Vt} {es : List Eg} {os : List Int} {X : IxS} (I : BldI vs es os X) (id : Int) : (getA X.S id).isSome = decide (id ∈ os) := by
  rw [I.puts.S_]
  have hk : ((segsOf vs es os).reverse.map (·.1)) = os.reverse := by rw [List.map_reverse, segs_keys]
  cases h : getA (segsOf vs es os).reverse id with
  | none =>
    have := getA_none.1 h
    rw [hk, List.mem_reverse] at this
    simp [this]
  | some v =>
    have : ¬ id ∉ (segsOf vs es os).reverse.map (·.1) := fun hn => by rw [getA_none.2 hn] at h; cases h
    rw [hk, List.mem_reverse] at this
    simp only [Option.isSome_some]
    exact (decide_eq_true (by simpa using this)).symm
theorem rightT_P {vs : List Vt} {es : List Eg} (h : rightB vs es = true) : RightP vs es := (right_iff vs es).1 (by rw [← right_same]; exact h)
theorem edge_find {es : List Eg} {id : Int} (h : (es.find? fun e => e.id == id).isSome = true) : ∃ x y, (es.find? fun e => e.id == id) = some ⟨id, x, y⟩ ∧ (⟨id, x, y⟩ : Eg) ∈ es := by
  obtain ⟨⟨i, x, y⟩, he⟩ := Option.isSome_iff_exists.1 h
  have h1 := List.find?_some he
  simp only [beq_iff_eq] at h1
  subst h1
  exact ⟨x, y, he, List.mem_of_find?_eq_some he⟩
theorem bld_step {vs : List Vt} {es : List Eg} {os : List Int} {j : Nat} {X Y : IxS} {id x y : Int} (I : BldI vs es (os.take j) X) (hj : os[j]? = some id) (hf : (es.find? fun e => e.id == id) = some ⟨id, x, y⟩) (hn : id ∉ os.take j) (hY : PutsR ((id, segZ vs x y) :: (segsOf vs es (os.take j)).reverse) Y) : BldI vs es (os.take (j + 1)) Y := by
  have e : os.take (j + 1) = os.take j ++ [id] := by rw [List.take_add_one, hj]; rfl
  rw [e]
  refine ⟨?_, ?_, ?_⟩
  · have : segsOf vs es (os.take j ++ [id]) = segsOf vs es (os.take j) ++ [(id, segZ vs x y)] := by
      unfold segsOf
      rw [List.map_append, List.map_singleton]
      unfold segI
      rw [hf]
    rw [this, List.reverse_append]
    exact hY
  · intro i hi
    rcases List.mem_append.1 hi with hi | hi
    · exact I.ids i hi
    · obtain rfl : i = id := by simpa using hi
      rw [hf]; rfl
  · rw [List.nodup_append]
    refine ⟨I.nodup, by simp, ?_⟩
    intro a ha b hb hab
    obtain rfl : b = id := by simpa using hb
    rw [← hab] at hn
    exact hn ha
theorem bld_no {es : List Eg} {os : List Int} {j : Nat} {id : Int} (hj : os[j]? = some id) (h : (es.find? fun e => e.id == id).isSome = false ∨ id ∈ os.take j) : ¬ OrdP es os := by
  rintro ⟨_, h1, h2⟩
  rcases h with h | h
  · rw [h1 id (List.mem_of_getElem? hj)] at h; cases h
  · obtain ⟨i, hi⟩ := List.getElem?_of_mem h
    have hil : i < j := by
      have := (List.getElem?_eq_some_iff.1 hi).1
      rw [List.length_take] at this; omega
    rw [List.getElem?_take_of_lt hil] at hi
    have := (List.getElem?_inj (i := i) (j := j) (List.getElem?_eq_some_iff.1 hi).1 h2).1 (by rw [hi, hj])
    omega
def oR (os : List Int) : List Value := os.map (Value.int .i64)
theorem oR_get {os : List Int} {j : Nat} {x : Int} (h : os[j]? = some x) : (oR os)[j]? = some (.int .i64 x) := by simp [oR, h]
set_option maxRecDepth 100000 in
set_option maxHeartbeats 16000000 in
theorem build_any (vs : List Vt) (es : List Eg) (os : List Int) (A A2 A3 : Option Addr) (n m q : Nat) (c c2 c3 : Nat) (F : Nat → Prop) (w : World) (hn : n = vs.length) (hm : m = es.length) (hq : q = os.length) (hs : Sl F w A (vR vs)) (hs2 : Sl F w A2 (eR es)) (hs3 : Sl F w A3 (oR os)) (hF : ∀ k, F k → k < w.heap.size) (hl : n ≤ 1000000) (hl2 : m ≤ 40) (hc2 : m ≤ c2) (hcc : c2 ≤ maxLen) :
    Calls Try.prog 37 #[.agg #[.slice A n c, .slice A2 m c2], .slice A3 q c3] w fun e w' =>
      (buildB vs es os = false ∧ e = .returned (.tuple #[.pointer none, .int .i64 1]) ∧ Below w.heap.size w w') ∨
      (buildB vs es os = true ∧ ∃ X bx ks ke cn cp dn dp, e = .returned (.tuple #[.pointer (some ⟨bx, 0, none⟩), .int .i64 0]) ∧ BldI vs es os X ∧ Own w.heap.size w w' (xL bx ks ke cn cp dn dp X [])) := by
  obtain ⟨b0, o0, H1, f0⟩ := (Own.start w).addSl (hs.ro (by rfl))
  obtain ⟨b9, o9, H2, f9⟩ := H1.addSl (hs2.ro (by rfl))
  obtain ⟨b8, o8, H, f8⟩ := H2.addSl (hs3.ro (by rfl))
  clear hs hs2 hs3 H1 H2
  have HN := Lib.hid hn
  have HM := Lib.hid hm
  have HQ := Lib.hid hq
  have h1 := fun F w a b => right_any vs es A A2 n m c c2 F w hn hm a b hl (by omega) hc2 hcc
  have h2 := fun F w a id => edge_any es A2 A m n c2 c F id w hm a (by omega)
  have h3 := fun F w a x y i => segOf_any vs A A2 n m c c2 F i x y w hn a hl
  cases hr : rightB vs es
  · have hbb : buildB vs es os = false := by unfold buildB; rw [hr]; rfl
    rw [hr] at h1
    clear h2 h3 hn hm hq
    go_enter Try.func37, Try.ntmps37
    have tk0 : True := trivial
    go_wp2_with (first
      | (go_at_call 25; (with_reducible refine (h1 _ _ (by exact H.giveRd m3 f0) (by exact H.giveRd m2 f9)).mono ?_); rintro e w3 ⟨rfl, hb⟩; replace H := H.ext hb; clear hb; dsimp only)
      | (guard_target =~ wpList _ _ _ (_ :: _) _ _; (first | (guard_target =~ wpList _ _ _ (Oper.mk _ (.load _ _) _ _ _ _ :: _) _ _; refine BigFrame.wpList_want rfl (fun K hK => ?_); (refine o_loadNC (row := ?_) rfl rfl H ?_ ?_ ?_ (hK _ _ ?_); rotate_left 1; (repeat first | exact .head _ | apply List.Mem.tail); (focus (intro _; simp; done)); (focus (intro _; simp; done))); clear hK K) | ((guard_target =~ wpList _ _ _ (Oper.mk _ (.box _ _) _ _ _ _ :: _) _ _; refine BigFrame.wpList_want rfl (fun K hK => ?_); refine o_box rfl H rfl (fun w3 b2 he H2 => hK _ _ ?_)); clear hK K he; clear H; (try clear w2); revert w3; intro w2 H; simp [Act.eval, Value.cells, setL, List.getD] at H; (clear tk0; rename Nat => b1))); simp only [Act.put, List.setIfInBounds_toArray, List.set_cons_succ, List.set_cons_zero]))
    go_ret2
    exact .inl ⟨hbb, rfl, H.below⟩
  have hends : ∀ i x y, (⟨i, x, y⟩ : Eg) ∈ es → (vs.find? fun v => v.id == x).isSome = true ∧ (vs.find? fun v => v.id == y).isSome = true := fun i x y h => ((rightT_P hr).each _ h).2.1.2
  rw [hr] at h1
  have HE := Lib.hid hends
  have HR := Lib.hid hr
  clear hends hr hn hm hq
  by_cases hql : q = m
  · subst hql
    have hlen : os.length = es.length := by rw [← HQ.out, ← HM.out]
    have HLEN := Lib.hid hlen
    clear hlen
    have hqq : ((q : Int) != (q : Int)) = false := by simp
    go_enter Try.func37, Try.ntmps37
    have tk0 : True := trivial
    go_wp2_with (first
      | (go_at_call 25; (with_reducible refine (h1 _ _ (by exact H.giveRd m3 f0) (by exact H.giveRd m2 f9)).mono ?_); rintro e w3 ⟨rfl, hb⟩; replace H := H.ext hb; clear hb; dsimp only)
      | (go_at_call 61; (with_reducible refine (fresh_any _).mono ?_); rintro e w3 ⟨bx, ks, ke, cn, cp, dn, dp, rfl, H2⟩; replace H := H.join H2 rfl; clear H2; simp only [List.cons_append, List.nil_append] at H; dsimp only)
      | (guard_target =~ wpList _ _ _ (_ :: _) _ _; (first | (guard_target =~ wpList _ _ _ (Oper.mk _ (.load _ _) _ _ _ _ :: _) _ _; refine BigFrame.wpList_want rfl (fun K hK => ?_); (first | (refine o_loadC (v := ?_) (row := ?_) rfl rfl H ?_ ?_ ?_ (hK _ _ ?_); rotate_left 2; (repeat first | exact .head _ | apply List.Mem.tail); (exact rfl); (focus (intro _; simp [hqq]; done))) | (refine o_loadNC (row := ?_) rfl rfl H ?_ ?_ ?_ (hK _ _ ?_); rotate_left 1; (repeat first | exact .head _ | apply List.Mem.tail); (focus (intro _; simp [hqq]; done)); (focus (intro _; simp [hqq]; done)))); clear hK K) | ((guard_target =~ wpList _ _ _ (Oper.mk _ (.box _ _) _ _ _ _ :: _) _ _; refine BigFrame.wpList_want rfl (fun K hK => ?_); refine o_box rfl H rfl (fun w3 b2 he H2 => hK _ _ ?_)); clear hK K he; clear H; (try clear w2); revert w3; intro w2 H; (try simp [Act.eval, List.getD, hqq] at H); (try simp [Value.cells, setL, hqq] at H); (clear tk0; rename Nat => b1))); simp only [Act.put, List.setIfInBounds_toArray, List.set_cons_succ, List.set_cons_zero, hqq]))
    go_loopg [27] q (fun k i wr => k ≤ q ∧ i = .int .i64 ((q - k : Nat) : Int) ∧ ∃ X dn dp cn cp, BldI vs es (os.take (q - k)) X ∧ Own w.heap.size w wr (xL bx ks ke cn cp dn dp X [.cells b1 [.slice A n c, .slice A2 q c2], .rd A3 b8 o8 (oR os), .rd A2 b9 o9 (eR es), .rd A b0 o0 (vR vs)]))
    case atStart =>
      refine ⟨Nat.le_refl _, by simp, ix0, dn, dp, cn, cp, ?_, H⟩
      rw [Nat.sub_self, List.take_zero]
      exact ⟨.nil, by simp, .nil⟩
    case round =>
      clear H
      obtain ⟨hk, rfl, X, dn, dp, cn, cp, hI, H⟩ := hrel
      have HI := Lib.hid hI
      by_cases hlt : 0 < gk
      · obtain ⟨j, hj⟩ : ∃ j, q - gk = j := ⟨_, rfl⟩
        have hjl : j < q := by omega
        obtain ⟨id, he⟩ : ∃ x, os[j]? = some x := ⟨_, List.getElem?_eq_getElem (by have := HQ.out; omega)⟩
        have he2 := oR_get he
        have hgs := bld_get hI id
        rw [hj] at hgs ⊢
        obtain rfl := H.rdAddr m6 (Nat.lt_of_le_of_lt (Nat.zero_le _) (List.getElem?_eq_some_iff.1 he2).1)
        have hp := at_rd (A := some ⟨b8, o8, none⟩) (b := b8) (off := o8) he2
        have h4 := fun F w a => h2 F w a id
        obtain ⟨o, ho⟩ : ∃ o, (es.find? fun e => e.id == id) = o := ⟨_, rfl⟩
        rw [ho] at h4
        have HOS := Lib.hid he
        have HJ := Lib.hid hj
        clear hI he he2 hj
        cases o with
        | none =>
          have hno := bld_no HOS.out (.inl (by rw [ho]; rfl))
          have hbb : buildB vs es os = false := by unfold buildB; rw [decide_eq_false hno, Bool.and_false]
          clear ho hgs hno
          simp only [egV, Option.isSome_none] at h4
          have tk0 : True := trivial
          have tk1 : True := trivial
          go_wp2_with (first
            | (go_at_call 59; (with_reducible refine (h4 _ _ (by exact H.giveRd m7 f9)).mono ?_); rintro e w3 ⟨rfl, hb⟩; replace H := H.ext hb; clear hb; dsimp only)
            | (guard_target =~ wpList _ _ _ (_ :: _) _ _; (first | (guard_target =~ wpList _ _ _ (Oper.mk _ (.load _ _) _ _ _ _ :: _) _ _; refine BigFrame.wpList_want rfl (fun K hK => ?_); (first | (refine o_load (v := ?_) (r := ?_) rfl rfl H ?_ ?_ ?_ (hK _ _ ?_); rotate_left 2; (with_reducible assumption); (repeat first | exact .head _ | apply List.Mem.tail); (focus (intro _; simp; done))) | (refine o_loadC (v := ?_) (row := ?_) rfl rfl H ?_ ?_ ?_ (hK _ _ ?_); rotate_left 2; (repeat first | exact .head _ | apply List.Mem.tail); (exact rfl); (focus (intro _; simp; done))) | (refine o_loadNC (row := ?_) rfl rfl H ?_ ?_ ?_ (hK _ _ ?_); rotate_left 1; (repeat first | exact .head _ | apply List.Mem.tail); (focus (intro _; simp; done)); (focus (intro _; simp; done)))); clear hK K) | (guard_target =~ wpList _ _ _ (Oper.mk _ (.store _ _ _) _ _ _ _ :: _) _ _; refine BigFrame.wpList_want rfl (fun K hK => ?_); refine o_store (l' := ?_) (row := ?_) rfl rfl H rfl ?_ ?_ ?_ ?_ (fun w3 H2 => hK _ _ ?_); rotate_left 2; (exact r0); (focus (intro _; simp [Act.eval, Value.cells]; done)); (focus (simp [Act.eval, Value.cells]; done)); (exact rfl); clear hK K; clear H; (try clear w2); revert w3; intro w2 H; simp [Act.eval, Value.cells, setL, List.getD] at H) | ((guard_target =~ wpList _ _ _ (Oper.mk _ (.alloc _) _ _ _ _ :: _) _ _; refine BigFrame.wpList_want rfl (fun K hK => ?_); refine o_alloc (z := ?_) rfl ?_ H rfl (fun w3 b2 he H2 => hK _ _ ?_); rotate_left 1; (focus (intro _; simp; with_reducible exact rfl))); clear hK K he; clear H; (try clear w2); revert w3; intro w2 H; simp [Act.eval, Value.cells, setL, List.getD] at H; (first | (clear tk0; rename Nat => b2) | (clear tk1; rename Nat => b3))) | (guard_target =~ wpList _ _ _ (Oper.mk _ (.lookup _ _ _ true) _ _ _ _ :: _) _ _; refine BigFrame.wpList_want rfl (fun K hK => ?_); refine o_segOk (m := ?_) rfl rfl rfl H ?_ (hK _ _ ?_); rotate_left 1; (repeat first | exact .head _ | apply List.Mem.tail); clear hK K)); simp only [Act.put, List.setIfInBounds_toArray, List.set_cons_succ, List.set_cons_zero]))
          go_ret2
          exact .inl ⟨hbb, rfl, H.below⟩
        | some e =>
          obtain ⟨x, y, ho2, hmem⟩ := edge_find (es := es) (id := id) (by rw [ho]; rfl)
          obtain rfl : e = ⟨id, x, y⟩ := by rw [ho] at ho2; injection ho2
          have h5 := fun F w a => h3 F w a x y id (HE.out id x y hmem).1 (HE.out id x y hmem).2
          simp only [egV, Option.isSome_some] at h4
          by_cases ht : id ∈ os.take j
          · have hno := bld_no (es := es) HOS.out (.inr ht)
            have hbb : buildB vs es os = false := by unfold buildB; rw [decide_eq_false hno, Bool.and_false]
            rw [decide_eq_true ht] at hgs
            obtain ⟨s0, hs0⟩ := Option.isSome_iff_exists.1 hgs
            clear ho ho2 hgs hno ht h5 hmem
            have tk0 : True := trivial
            have tk1 : True := trivial
            go_wp2_with (first
              | (go_at_call 59; (with_reducible refine (h4 _ _ (by exact H.giveRd m7 f9)).mono ?_); rintro e w3 ⟨rfl, hb⟩; replace H := H.ext hb; clear hb; dsimp only)
              | (guard_target =~ wpList _ _ _ (_ :: _) _ _; (first | (guard_target =~ wpList _ _ _ (Oper.mk _ (.load _ _) _ _ _ _ :: _) _ _; refine BigFrame.wpList_want rfl (fun K hK => ?_); (first | (refine o_load (v := ?_) (r := ?_) rfl rfl H ?_ ?_ ?_ (hK _ _ ?_); rotate_left 2; (with_reducible assumption); (repeat first | exact .head _ | apply List.Mem.tail); (focus (intro _; simp [hs0]; done))) | (refine o_loadC (v := ?_) (row := ?_) rfl rfl H ?_ ?_ ?_ (hK _ _ ?_); rotate_left 2; (repeat first | exact .head _ | apply List.Mem.tail); (exact rfl); (focus (intro _; simp [hs0]; done))) | (refine o_loadNC (row := ?_) rfl rfl H ?_ ?_ ?_ (hK _ _ ?_); rotate_left 1; (repeat first | exact .head _ | apply List.Mem.tail); (focus (intro _; simp [hs0]; done)); (focus (intro _; simp [hs0]; done)))); clear hK K) | (guard_target =~ wpList _ _ _ (Oper.mk _ (.store _ _ _) _ _ _ _ :: _) _ _; refine BigFrame.wpList_want rfl (fun K hK => ?_); refine o_store (l' := ?_) (row := ?_) rfl rfl H rfl ?_ ?_ ?_ ?_ (fun w3 H2 => hK _ _ ?_); rotate_left 2; (exact r0); (focus (intro _; (simp [Act.eval, Value.cells, List.getD, hs0]; done))); (focus (simp [Act.eval, Value.cells, List.getD, hs0]; done)); (exact rfl); clear hK K; clear H; (try clear w2); revert w3; intro w2 H; (try simp [Act.eval, List.getD, hs0] at H); (try simp [Value.cells, setL, hs0] at H)) | ((guard_target =~ wpList _ _ _ (Oper.mk _ (.alloc _) _ _ _ _ :: _) _ _; refine BigFrame.wpList_want rfl (fun K hK => ?_); refine o_alloc (z := ?_) rfl ?_ H rfl (fun w3 b2 he H2 => hK _ _ ?_); rotate_left 1; (focus (intro _; simp; with_reducible exact rfl))); clear hK K he; clear H; (try clear w2); revert w3; intro w2 H; (try simp [Act.eval, List.getD, hs0] at H); (try simp [Value.cells, setL, hs0] at H); (first | (clear tk0; rename Nat => b2) | (clear tk1; rename Nat => b3))) | (guard_target =~ wpList _ _ _ (Oper.mk _ (.lookup _ _ _ true) _ _ _ _ :: _) _ _; refine BigFrame.wpList_want rfl (fun K hK => ?_); refine o_segOk (m := ?_) rfl rfl rfl H ?_ (hK _ _ ?_); rotate_left 1; (repeat first | exact .head _ | apply List.Mem.tail); clear hK K)); simp only [Act.put, List.setIfInBounds_toArray, List.set_cons_succ, List.set_cons_zero, hs0]))
            go_ret2
            exact .inl ⟨hbb, rfl, H.below⟩
          · rw [decide_eq_false ht] at hgs
            have hs0 : getA X.S id = none := by
              cases e : getA X.S id
              · rfl
              · rw [e] at hgs; cases hgs
            have hl40 : ((segsOf vs es (os.take j)).reverse).length < 40 := by
              rw [List.length_reverse]; unfold segsOf; rw [List.length_map, List.length_take]
              have := HQ.out; omega
            have hkey : id ∉ ((segsOf vs es (os.take j)).reverse).map (·.1) := by rw [List.map_reverse, segs_keys, List.mem_reverse]; exact ht
            have hJJ := HJ.out
            rw [hJJ] at HI
            have hput := fun {l : List Res} w4 H => put2_any (B := w.heap.size) (w0 := w) (w := w4) (l := l) (bx := bx) (ks := ks) (ke := ke) (cn := cn) (cp := cp) (dn := dn) (dp := dp) id (segZ vs x y) HI.out.puts hl40 hkey H
            have HT := Lib.hid ht
            have HO2 := Lib.hid ho2
            clear ho ho2 hgs ht hmem hl40 hkey hJJ
            have tk0 : True := trivial
            have tk1 : True := trivial
            go_wp2_with (first
              | (go_at_call 59; (with_reducible refine (h4 _ _ (by exact H.giveRd m7 f9)).mono ?_); rintro e w3 ⟨rfl, hb⟩; replace H := H.ext hb; clear hb; dsimp only)
              | (go_at_call 63; (with_reducible refine (h5 _ _ (by exact H.giveRd m10 f0)).mono ?_); rintro e w3 ⟨rfl, hb⟩; replace H := H.ext hb; clear hb; dsimp only)
              | (go_at_call 62; (replace H:Own _ _ _ (mEnd _ _ :: _) := H.front6); (replace H:Own _ _ _ (mSeg _ _ :: _) := H.front6); (replace H:Own _ _ _ (Res.grow 121 _ _ _ _ :: _) := H.front6); (replace H:Own _ _ _ (Res.grow 127 _ _ _ _ :: _) := H.front6); (replace H:Own _ _ _ (Res.cells bx _ :: _) := H.front6); (with_reducible refine (hput _ H).mono ?_); rintro e w3 ⟨rfl, Y, dn2, dp2, cn2, cp2, hY, H2⟩; replace H := H2; clear H2; have HY := Lib.hid hY; clear hY; dsimp only)
              | (guard_target =~ wpList _ _ _ (_ :: _) _ _; (first | (guard_target =~ wpList _ _ _ (Oper.mk _ (.load _ _) _ _ _ _ :: _) _ _; refine BigFrame.wpList_want rfl (fun K hK => ?_); (first | (refine o_load (v := ?_) (r := ?_) rfl rfl H ?_ ?_ ?_ (hK _ _ ?_); rotate_left 2; (with_reducible assumption); (repeat first | exact .head _ | apply List.Mem.tail); (focus (intro _; simp [hs0]; done))) | (refine o_loadC (v := ?_) (row := ?_) rfl rfl H ?_ ?_ ?_ (hK _ _ ?_); rotate_left 2; (repeat first | exact .head _ | apply List.Mem.tail); (exact rfl); (focus (intro _; simp [hs0]; done))) | (refine o_loadNC (row := ?_) rfl rfl H ?_ ?_ ?_ (hK _ _ ?_); rotate_left 1; (repeat first | exact .head _ | apply List.Mem.tail); (focus (intro _; simp [hs0]; done)); (focus (intro _; simp [hs0]; done)))); clear hK K) | (guard_target =~ wpList _ _ _ (Oper.mk _ (.store _ _ _) _ _ _ _ :: _) _ _; refine BigFrame.wpList_want rfl (fun K hK => ?_); refine o_store (l' := ?_) (row := ?_) rfl rfl H rfl ?_ ?_ ?_ ?_ (fun w3 H2 => hK _ _ ?_); rotate_left 2; (exact r0); (focus (intro _; (simp [Act.eval, Value.cells, List.getD, hs0]; done))); (focus (simp [Act.eval, Value.cells, List.getD, hs0]; done)); (exact rfl); clear hK K; clear H; (try clear w2); revert w3; intro w2 H; (try simp [Act.eval, List.getD, hs0] at H); (try simp [Value.cells, setL, hs0] at H)) | ((guard_target =~ wpList _ _ _ (Oper.mk _ (.alloc _) _ _ _ _ :: _) _ _; refine BigFrame.wpList_want rfl (fun K hK => ?_); refine o_alloc (z := ?_) rfl ?_ H rfl (fun w3 b2 he H2 => hK _ _ ?_); rotate_left 1; (focus (intro _; simp; with_reducible exact rfl))); clear hK K he; clear H; (try clear w2); revert w3; intro w2 H; (try simp [Act.eval, List.getD, hs0] at H); (try simp [Value.cells, setL, hs0] at H); (first | (clear tk0; rename Nat => b2) | (clear tk1; rename Nat => b3))) | (guard_target =~ wpList _ _ _ (Oper.mk _ (.lookup _ _ _ true) _ _ _ _ :: _) _ _; refine BigFrame.wpList_want rfl (fun K hK => ?_); refine o_segOk (m := ?_) rfl rfl rfl H ?_ (hK _ _ ?_); rotate_left 1; (repeat first | exact .head _ | apply List.Mem.tail); clear hK K)); simp only [Act.put, List.setIfInBounds_toArray, List.set_cons_succ, List.set_cons_zero, hs0]))
            go_roundg (gk - 1)
            case rel =>
              refine ⟨by omega, by have := HJ.out; congr 1; omega, Y, dn2, dp2, cn2, cp2, ?_, (H.sub (by repeat first | exact List.Sublist.refl _ | apply List.Sublist.cons_cons | apply List.Sublist.cons))⟩
              rw [show q - (gk - 1) = j + 1 by have := HJ.out; omega]
              exact bld_step HI.out HOS.out HO2.out HT.out HY.out
            case measure => omega
      · obtain rfl : gk = 0 := by omega
        rw [Nat.sub_zero, List.take_of_length_le (by have := HQ.out; omega)] at hI
        have hbb : buildB vs es os = true := by unfold buildB; rw [HR.out, decide_eq_true ⟨HLEN.out, hI.ids, hI.nodup⟩]; rfl
        have HI2 := Lib.hid hI
        clear hI HI
        go_wp2_with (first | fail)
        go_ret2
        exact .inr ⟨hbb, X, bx, ks, ke, cn, cp, dn, dp, rfl, HI2.out, (H.sub (by repeat first | exact List.Sublist.refl _ | apply List.Sublist.cons_cons | apply List.Sublist.cons))⟩
  · have hno : ¬ OrdP es os := fun h => hql (by rw [HQ.out, HM.out]; exact h.1)
    have hbb : buildB vs es os = false := by unfold buildB; rw [decide_eq_false hno, Bool.and_false]
    have hqq : ((q : Int) != (m : Int)) = true := by simp; omega
    clear hno
    go_enter Try.func37, Try.ntmps37
    have tk0 : True := trivial
    go_wp2_with (first
      | (go_at_call 25; (with_reducible refine (h1 _ _ (by exact H.giveRd m3 f0) (by exact H.giveRd m2 f9)).mono ?_); rintro e w3 ⟨rfl, hb⟩; replace H := H.ext hb; clear hb; dsimp only)
      | (guard_target =~ wpList _ _ _ (_ :: _) _ _; (first | (guard_target =~ wpList _ _ _ (Oper.mk _ (.load _ _) _ _ _ _ :: _) _ _; refine BigFrame.wpList_want rfl (fun K hK => ?_); (first | (refine o_loadC (v := ?_) (row := ?_) rfl rfl H ?_ ?_ ?_ (hK _ _ ?_); rotate_left 2; (repeat first | exact .head _ | apply List.Mem.tail); (exact rfl); (focus (intro _; simp [hqq]; done))) | (refine o_loadNC (row := ?_) rfl rfl H ?_ ?_ ?_ (hK _ _ ?_); rotate_left 1; (repeat first | exact .head _ | apply List.Mem.tail); (focus (intro _; simp [hqq]; done)); (focus (intro _; simp [hqq]; done)))); clear hK K) | ((guard_target =~ wpList _ _ _ (Oper.mk _ (.box _ _) _ _ _ _ :: _) _ _; refine BigFrame.wpList_want rfl (fun K hK => ?_); refine o_box rfl H rfl (fun w3 b2 he H2 => hK _ _ ?_)); clear hK K he; clear H; (try clear w2); revert w3; intro w2 H; (try simp [Act.eval, List.getD, hqq] at H); (try simp [Value.cells, setL, hqq] at H); (clear tk0; rename Nat => b1))); simp only [Act.put, List.setIfInBounds_toArray, List.set_cons_succ, List.set_cons_zero, hqq]))
    go_ret2
    exact .inl ⟨hbb, rfl, H.below⟩
end Go.Proofs.Ytlhmjhildlnokaa

/-
  One round of put, seen from behind it.
-/
namespace Go.Proofs.Ytlhmjhildlnokaa
set_option linter.unusedVariables false
set_option linter.unusedSimpArgs false
open Go.RowKit Go.Sort Go.Shelf
/-! ### One round, seen from behind it -/
theorem setT_at {P : List Pc} {i : Nat} {p : Pc} (r : Pt) (h : P[i]? = some p) : (setR P i r)[i]? = some { p with t := { p.t with hr := true, r := r } } := by
  unfold setR; rw [h]
  simp only
  rw [List.getElem?_set]; simp [(List.getElem?_eq_some_iff.1 h).1]
theorem setG_at {P : List Pc} {i : Nat} {p : Pc} (h : P[i]? = some p) : (setG P i)[i]? = some { p with g := true } := by
  unfold setG; rw [h]
  simp only
  rw [List.getElem?_set]; simp [(List.getElem?_eq_some_iff.1 h).1]
/-- A line's question, with a wall at its right end, with a wall at its left end. -/
def QLine (N : List Nd) (id : Int) (u d : Nat) (q : Nd) : Prop := q = ⟨2, id, ⟨0, 0⟩, (u : Int), (d : Int)⟩
def QEnd (N : List Nd) (P : List Pc) (N0 : Nat) (ce : Bool) (t : Tz) (b : Pt) (i : Nat) (q1 q : Nd) : Prop :=
  if ce then ∃ c e : Nat, N0 ≤ c ∧ N0 ≤ e ∧ N[c]? = some q1 ∧ N[e]? = some (lfN i) ∧ P[i]? = some ⟨{ t with hl := true, l := b }, (e : Int), false⟩ ∧ q = ⟨1, 0, b, (c : Int), (e : Int)⟩ else q = q1
def QBeg (N : List Nd) (P : List Pc) (N0 : Nat) (cb : Bool) (t : Tz) (a : Pt) (i : Nat) (q1 q : Nd) : Prop :=
  if cb then ∃ c e : Nat, N0 ≤ c ∧ N0 ≤ e ∧ N[c]? = some q1 ∧ N[e]? = some (lfN i) ∧ P[i]? = some ⟨{ t with hr := true, r := a }, (e : Int), false⟩ ∧ q = ⟨1, 0, a, (e : Int), (c : Int)⟩ else q = q1
structure RV (id : Int) (s : Sg) (f la : Bool) (n : Nat) (X Y : PSt) (p : Pc) (l r : Pt) (cu cd ce cb : Bool) : Prop where
  pl : Y.P.length = X.P.length + cu.toNat + cd.toNat + ce.toNat + cb.toNat
  old : ∀ i, i < X.P.length → i ≠ n → (cu = true ∨ i ≠ idN X.N X.u) → (cd = true ∨ i ≠ idN X.N X.d) → Y.P[i]? = X.P[i]?
  gone : Y.P[n]? = some { p with g := true }
  nl : X.N.length ≤ Y.N.length
  oldN : ∀ i, i < X.N.length → i ≠ p.n.toNat → Y.N[i]? = X.N[i]?
  u1 : cu = true → Y.u = X.N.length ∧ Y.N[X.N.length]? = some (lfN X.P.length) ∧ Y.P[X.P.length]? = some ⟨⟨p.t.top, id, true, true, l, r⟩, (X.N.length : Int), false⟩
  u0 : cu = false → Y.u = X.u ∧ ∀ pu, X.P[idN X.N X.u]? = some pu → Y.P[idN X.N X.u]? = some { pu with t := { pu.t with hr := true, r := r } }
  d1 : cd = true → Y.d = X.N.length + cu.toNat ∧ Y.N[X.N.length + cu.toNat]? = some (lfN (X.P.length + cu.toNat)) ∧ Y.P[X.P.length + cu.toNat]? = some ⟨⟨id, p.t.bot, true, true, l, r⟩, ((X.N.length + cu.toNat : Nat) : Int), false⟩
  d0 : cd = false → Y.d = X.d ∧ ∀ pu, X.P[idN X.N X.d]? = some pu → Y.P[idN X.N X.d]? = some { pu with t := { pu.t with hr := true, r := r } }
  q : ∃ q1 q2 q3, QLine Y.N id Y.u Y.d q1 ∧ QEnd Y.N Y.P X.N.length ce p.t s.b (X.P.length + cu.toNat + cd.toNat) q1 q2 ∧ QBeg Y.N Y.P X.N.length cb p.t s.a (X.P.length + cu.toNat + cd.toNat + ce.toNat) q2 q3 ∧ Y.N[p.n.toNat]? = some q3
theorem set_ne {α : Type} {l : List α} {i j : Nat} {a : α} (h : j ≠ i) : (l.set i a)[j]? = l[j]? := by rw [List.getElem?_set]; simp [Ne.symm h]
theorem set_at {α : Type} {l : List α} {i : Nat} {a : α} (h : i < l.length) : (l.set i a)[i]? = some a := by rw [List.getElem?_set]; simp [h]
theorem app_lt {α : Type} {l m : List α} {i : Nat} (h : i < l.length) : (l ++ m)[i]? = l[i]? := List.getElem?_append_left h
theorem app_at {α : Type} {l : List α} {i : Nat} {a : α} {m : List α} (h : i = l.length) : (l ++ a :: m)[i]? = some a := by subst h; simp
theorem roundS_view {N0 : Nat} {Pa : List Pc} {rest : List Nat} {n : Nat} {id : Int} {s : Sg} {f la : Bool} {X : PSt} {p : Pc} (I : PInv N0 Pa (n :: rest) X) (hu : f = false → LeafIn N0 Pa.length X X.u ∧ LeafIn N0 Pa.length X X.d)
    (hp : Pa[n]? = some p) (hud : f = false → idN X.N X.u ≠ idN X.N X.d) :
    RV id s f la n X (roundS id s f la n X) p (if f then s.a else p.t.l) (if la then s.b else p.t.r) (f || decide (0 < turnB s.a s.b p.t.l)) (f || decide (turnB s.a s.b p.t.l < 0)) (la && (!p.t.hr || lessB s.b p.t.r)) (f && (!p.t.hl || lessB p.t.l s.a)) := by
  obtain ⟨hnl, hnp⟩ := I.rest n (by simp)
  have hXn : X.P[n]? = some p := hnp.trans hp
  have hpn := I.nodes p (List.mem_of_getElem? hp)
  have hN0 := I.nN
  have hP0 := I.nP
  unfold roundS
  simp only [hXn, Option.getD_some]
  obtain ⟨N, P, u, d⟩ := X
  simp only at hXn hN0 hP0 hud
  -- the two walls
  have hcu : f = true → (f || decide (0 < turnB s.a s.b p.t.l)) = true := by rintro rfl; rfl
  have hcd : f = true → (f || decide (turnB s.a s.b p.t.l < 0)) = true := by rintro rfl; rfl
  generalize (f || decide (0 < turnB s.a s.b p.t.l)) = cu at *
  generalize (f || decide (turnB s.a s.b p.t.l < 0)) = cd at *
  generalize (la && (!p.t.hr || lessB s.b p.t.r)) = ce at *
  generalize (f && (!p.t.hl || lessB p.t.l s.a)) = cb at *
  generalize (if f then s.a else p.t.l) = l
  generalize (if la then s.b else p.t.r) = r
  have hu0 : cu = false → LeafIn N0 Pa.length ⟨N, P, u, d⟩ u := fun h => (hu (by cases f; rfl; rw [hcu rfl] at h; cases h)).1
  have hd0 : cd = false → LeafIn N0 Pa.length ⟨N, P, u, d⟩ d := fun h => (hu (by cases f; rfl; rw [hcd rfl] at h; cases h)).2
  have hud2 : cu = false → cd = false → idN N u ≠ idN N d := fun h _ => hud (by cases f; rfl; rw [hcu rfl] at h; cases h)
  clear hu hcu hcd hud
  -- nodes and pieces behind the two leaves
  obtain ⟨N2, hN2⟩ : ∃ N2, N2 = (loS cd ⟨id, p.t.bot, true, false, l, ⟨0, 0⟩⟩ (upS cu ⟨p.t.top, id, true, false, l, ⟨0, 0⟩⟩ ⟨N, P, u, d⟩)) := ⟨_, rfl⟩
  rw [← hN2]
  have e1 : N2.P = P ++ ((if cu then [⟨⟨p.t.top, id, true, false, l, ⟨0, 0⟩⟩, (N.length : Int), false⟩] else []) ++ (if cd then [⟨⟨id, p.t.bot, true, false, l, ⟨0, 0⟩⟩, ((N.length + cu.toNat : Nat) : Int), false⟩] else [])) := by
    rw [hN2]; cases cu <;> cases cd <;> simp [upS, loS]
  have e2 : N2.N = N ++ ((if cu then [lfN P.length] else []) ++ (if cd then [lfN (P.length + cu.toNat)] else [])) := by
    rw [hN2]; cases cu <;> cases cd <;> simp [upS, loS]
  have e3 : N2.u = if cu then N.length else u := by rw [hN2]; cases cu <;> cases cd <;> simp [upS, loS]
  have e4 : N2.d = if cd then N.length + cu.toNat else d := by rw [hN2]; cases cu <;> cases cd <;> simp [upS, loS]
  have hPl : N2.P.length = P.length + cu.toNat + cd.toNat := by rw [e1]; cases cu <;> cases cd <;> simp
  have hNl : N2.N.length = N.length + cu.toNat + cd.toNat := by rw [e2]; cases cu <;> cases cd <;> simp
  have iu : idN N2.N N2.u = if cu then P.length else idN N u := by
    cases cu
    · have := (hu0 rfl).lt
      simp only [e3, e2, idN]
      simp only [Bool.false_eq_true, if_false]
      rw [app_lt this]
    · simp only [e3, e2, idN, if_true]
      rw [List.cons_append, app_at rfl]; simp [lfN]
  have idx : idN N2.N N2.d = if cd then P.length + cu.toNat else idN N d := by
    cases cd
    · have := (hd0 rfl).lt
      simp only [e4, e2, idN]
      simp only [Bool.false_eq_true, if_false, List.append_nil]
      rw [app_lt this]
    · simp only [e4, e2, idN, if_true]
      rw [← List.append_assoc, app_at (by cases cu <;> simp)]; simp [lfN]; omega
  have hnP : n < P.length := Nat.lt_of_lt_of_le hnl hP0
  have pu0 : cu = false → idN N u < P.length ∧ Pa.length ≤ idN N u := fun h => by
    obtain ⟨q, _, h2, h3⟩ := (hu0 h).id
    exact ⟨(List.getElem?_eq_some_iff.1 h2).1, h3⟩
  have pd0 : cd = false → idN N d < P.length ∧ Pa.length ≤ idN N d := fun h => by
    obtain ⟨q, _, h2, h3⟩ := (hd0 h).id
    exact ⟨(List.getElem?_eq_some_iff.1 h2).1, h3⟩
  have nu : idN N2.N N2.u ≠ n := by rw [iu]; cases cu; · have := pu0 rfl; simp; omega
                                    · simp; omega
  have nd : idN N2.N N2.d ≠ n := by rw [idx]; cases cd; · have := pd0 rfl; simp; omega
                                    · simp; omega
  have nud : idN N2.N N2.u ≠ idN N2.N N2.d := by
    rw [iu, idx]
    cases cu <;> cases cd <;> simp
    · exact hud2 rfl rfl
    · have := pu0 rfl; omega
    · have := pd0 rfl; omega
  -- the three changes
  obtain ⟨P3, hP3⟩ : ∃ P3, P3 = setG (setR (setR N2.P (idN N2.N N2.u) r) (idN N2.N N2.d) r) n := ⟨_, rfl⟩
  have l3 : P3.length = N2.P.length := by rw [hP3, setG_len, setR_len, setR_len]
  have g0 : ∀ i, i ≠ n → i ≠ idN N2.N N2.u → i ≠ idN N2.N N2.d → P3[i]? = N2.P[i]? := fun i h1 h2 h3 => by rw [hP3, setG_ne h1, setR_ne _ h3, setR_ne _ h2]
  have g1 : P3[n]? = some { p with g := true } := by
    rw [hP3]
    refine setG_at ?_
    rw [setR_ne _ nd.symm, setR_ne _ nu.symm, e1, app_lt hnP]; exact hXn
  have g2 : ∀ q, N2.P[idN N2.N N2.u]? = some q → P3[idN N2.N N2.u]? = some { q with t := { q.t with hr := true, r := r } } := fun q h => by
    rw [hP3, setG_ne nu, setR_ne _ nud]; exact setT_at _ h
  have g3 : ∀ q, N2.P[idN N2.N N2.d]? = some q → P3[idN N2.N N2.d]? = some { q with t := { q.t with hr := true, r := r } } := fun q h => by
    rw [hP3, setG_ne nd]
    refine setT_at _ ?_
    rw [setR_ne _ nud.symm]; exact h
  have eX3 : rtS r n N2 = ⟨N2.N, P3, N2.u, N2.d⟩ := by unfold rtS; rw [hP3]
  rw [eX3]
  -- the rests
  obtain ⟨X4, hX4⟩ : ∃ X4, X4 = endS ce { p.t with hl := true, l := s.b } s.b (⟨N2.N, P3, N2.u, N2.d⟩, ⟨2, id, ⟨0, 0⟩, (N2.u : Int), (N2.d : Int)⟩) := ⟨_, rfl⟩
  obtain ⟨X5, hX5⟩ : ∃ X5, X5 = begS cb { p.t with hr := true, r := s.a } s.a X4 := ⟨_, rfl⟩
  rw [← hX4, ← hX5]
  have f1 : X5.1.u = N2.u ∧ X5.1.d = N2.d := by rw [hX5, hX4]; cases ce <;> cases cb <;> exact ⟨rfl, rfl⟩
  have k4 : Kp ⟨N2.N, P3, N2.u, N2.d⟩ X4.1 := by rw [hX4]; exact endS_kp _ _ _ (⟨N2.N, P3, N2.u, N2.d⟩, _)
  have k5 : Kp X4.1 X5.1 := by rw [hX5]; exact begS_kp _ _ _ _
  have k45 := k4.trans k5
  have l4 : X4.1.P.length = P3.length + ce.toNat := by rw [hX4]; cases ce <;> simp [endS]
  have l5 : X5.1.P.length = P3.length + ce.toNat + cb.toNat := by rw [hX5, ← l4]; cases cb <;> simp [begS]
  have keepP : ∀ i q, P3[i]? = some q → X5.1.P[i]? = some q := fun i q h => (k45.p i (List.getElem?_eq_some_iff.1 h).1).trans h
  have keepN : ∀ i q, i ≠ p.n.toNat → N2.N[i]? = some q → (nodeS p.n.toNat X5).N[i]? = some q := fun i q h1 h => by
    show (X5.1.N.set _ _)[i]? = _
    rw [set_ne h1]; exact (k45.n i (List.getElem?_eq_some_iff.1 h).1).trans h
  have hpn2 : p.n.toNat < N0 := by omega
  have h45 := k45.nl
  simp only at h45
  refine ⟨?_, fun i hi h1 h2 h3 => ?_, keepP _ _ g1, ?_, fun i hi h1 => ?_, ?_, ?_, ?_, ?_, ?_⟩
  · show X5.1.P.length = P.length + _ + _ + _ + _
    omega
  · have hh : P3[i]? = P[i]? := by
      rw [g0 i h1 ?_ ?_, e1, app_lt hi]
      · rw [iu]; cases cu <;> simp at h2 ⊢; · exact h2
        · have : i < P.length := hi; omega
      · rw [idx]; cases cd <;> simp at h3 ⊢; · exact h3
        · have : i < P.length := hi; omega
    show X5.1.P[i]? = P[i]?
    have hi' : i < P.length := hi
    rw [k45.p i (by show i < P3.length; omega)]; exact hh
  · show N.length ≤ (X5.1.N.set _ _).length
    rw [List.length_set]; omega
  · show (X5.1.N.set _ _)[i]? = N[i]?
    have hi' : i < N.length := hi
    rw [set_ne h1, k45.n i (by show i < N2.N.length; omega)]
    show N2.N[i]? = _
    rw [e2, app_lt hi']
  · intro hc
    subst hc
    refine ⟨?_, ?_, ?_⟩
    · show X5.1.u = _
      rw [f1.1, e3]; rfl
    · refine keepN _ _ (by show N.length ≠ _; omega) ?_
      rw [e2, if_pos rfl, List.cons_append]
      exact app_at rfl
    · have := g2 ⟨⟨p.t.top, id, true, false, l, ⟨0, 0⟩⟩, (N.length : Int), false⟩ (by rw [iu, if_pos rfl, e1, if_pos rfl, List.cons_append]; exact app_at rfl)
      rw [iu, if_pos rfl] at this
      exact keepP _ _ this
  · intro hc
    subst hc
    refine ⟨?_, fun q hq => ?_⟩
    · show X5.1.u = _
      rw [f1.1, e3]; rfl
    · have h0 := (pu0 rfl).1
      have hq' : P[idN N u]? = some q := hq
      have := g2 q (by rw [iu, if_neg (by simp), e1, app_lt h0]; exact hq')
      rw [iu, if_neg (by simp)] at this
      exact keepP _ _ this
  · intro hc
    subst hc
    refine ⟨?_, ?_, ?_⟩
    · show X5.1.d = _
      rw [f1.2, e4]; rfl
    · refine keepN _ _ (by show N.length + _ ≠ _; omega) ?_
      rw [e2, if_pos rfl, ← List.append_assoc]
      exact app_at (by cases cu <;> simp)
    · have := g3 ⟨⟨id, p.t.bot, true, false, l, ⟨0, 0⟩⟩, ((N.length + cu.toNat : Nat) : Int), false⟩ (by rw [idx, if_pos rfl, e1, if_pos rfl, ← List.append_assoc]; exact app_at (by cases cu <;> simp))
      rw [idx, if_pos rfl] at this
      exact keepP _ _ this
  · intro hc
    subst hc
    refine ⟨?_, fun q hq => ?_⟩
    · show X5.1.d = _
      rw [f1.2, e4]; rfl
    · have h0 := (pd0 rfl).1
      have hq' : P[idN N d]? = some q := hq
      have := g3 q (by rw [idx, if_neg (by simp), e1, app_lt h0]; exact hq')
      rw [idx, if_neg (by simp)] at this
      exact keepP _ _ this
  · have keep4 : ∀ i q, i ≠ p.n.toNat → X4.1.N[i]? = some q → (nodeS p.n.toNat X5).N[i]? = some q := fun i q h1 h => by
      show (X5.1.N.set _ _)[i]? = _
      rw [set_ne h1]; exact (k5.n i (List.getElem?_eq_some_iff.1 h).1).trans h
    have keep5 : ∀ i q, i ≠ p.n.toNat → X5.1.N[i]? = some q → (nodeS p.n.toNat X5).N[i]? = some q := fun i q h1 h => by
      show (X5.1.N.set _ _)[i]? = _
      rw [set_ne h1]; exact h
    have h4l := k4.nl
    simp only at h4l
    refine ⟨⟨2, id, ⟨0, 0⟩, (X5.1.u : Int), (X5.1.d : Int)⟩, X4.2, X5.2, rfl, ?_, ?_, set_at (by show p.n.toNat < X5.1.N.length; omega)⟩
    · rw [f1.1, f1.2]
      unfold QEnd
      cases ce
      · rw [hX4]; simp [endS]
      · rw [if_pos rfl]
        have a1 : X4.1.N = N2.N ++ [⟨2, id, ⟨0, 0⟩, (N2.u : Int), (N2.d : Int)⟩] ++ [lfN P3.length] := by rw [hX4]; simp [endS]
        have a2 : X4.1.P = P3 ++ [⟨{ p.t with hl := true, l := s.b }, ((N2.N.length + 1 : Nat) : Int), false⟩] := by rw [hX4]; simp [endS]
        refine ⟨N2.N.length, N2.N.length + 1, by show N.length ≤ _; omega, by show N.length ≤ _; omega, keep4 _ _ (by omega) ?_, keep4 _ _ (by omega) ?_, ?_, ?_⟩
        · rw [a1, app_lt (by simp)]; exact app_at rfl
        · rw [show (⟨N, P, u, d⟩ : PSt).P.length + cu.toNat + cd.toNat = P3.length by (show P.length + _ + _ = _); omega, a1]; exact app_at (by simp)
        · show X5.1.P[_]? = _
          have h4 : X4.1.P.length = P3.length + 1 := l4
          rw [k5.p _ (show P.length + cu.toNat + cd.toNat < X4.1.P.length by omega), a2]; exact app_at (by show P.length + _ + _ = _; omega)
        · rw [hX4]; simp [endS]
    · unfold QBeg
      cases cb
      · rw [hX5]; simp [begS]
      · rw [if_pos rfl]
        have a1 : X5.1.N = X4.1.N ++ [lfN X4.1.P.length] ++ [X4.2] := by rw [hX5]; simp [begS]
        have a2 : X5.1.P = X4.1.P ++ [⟨{ p.t with hr := true, r := s.a }, (X4.1.N.length : Int), false⟩] := by rw [hX5]; simp [begS]
        refine ⟨X4.1.N.length + 1, X4.1.N.length, by show N.length ≤ _; omega, by show N.length ≤ _; omega, keep5 _ _ (by omega) ?_, keep5 _ _ (by omega) ?_, ?_, ?_⟩
        · rw [a1]; exact app_at (by simp)
        · rw [a1, app_lt (by simp), show (⟨N, P, u, d⟩ : PSt).P.length + cu.toNat + cd.toNat + ce.toNat = X4.1.P.length by (show P.length + _ + _ + _ = _); omega]; exact app_at rfl
        · show X5.1.P[_]? = _
          rw [a2]; exact app_at (by show P.length + _ + _ + _ = _; omega)
        · rw [hX5]; simp [begS]
end Go.Proofs.Ytlhmjhildlnokaa

/-
  What the rounds of put make: runs of old trapezes above the line and below it, and rests.
-/
namespace Go.Proofs.Ytlhmjhildlnokaa
set_option linter.unusedVariables false
set_option linter.unusedSimpArgs false
open Go.RowKit Go.Sort Go.Shelf
/-! ### What all rounds make: each new piece is a run of old ones, above or below; or a rest -/
section
variable (N : List Nd) (P : List Pc) (id : Int) (s : Sg) (all : List Nat)
def pk (k : Nat) : Pc := (P[(all[k]?).getD 0]?).getD pc0
def upK (k : Nat) : Bool := decide (0 < turnB s.a s.b (pk P all k).t.l)
def dnK (k : Nat) : Bool := decide (turnB s.a s.b (pk P all k).t.l < 0)
def lftK (k : Nat) : Pt := if k = 0 then s.a else (pk P all k).t.l
def rgtK (k : Nat) : Pt := if k + 1 = all.length then s.b else (pk P all k).t.r
def ceK (k : Nat) : Bool := decide (k + 1 = all.length) && (!(pk P all k).t.hr || lessB s.b (pk P all k).t.r)
def cbK (k : Nat) : Bool := decide (k = 0) && (!(pk P all k).t.hl || lessB (pk P all k).t.l s.a)
inductive Kd where
  | U (a b : Nat)
  | D (a b : Nat)
  | L
  | R
def Kd.tag : Kd → Nat × Nat
  | .U a _ => (0, a)
  | .D a _ => (1, a)
  | .L => (2, 0)
  | .R => (3, 0)
def tzK : Kd → Tz
  | .U a b => ⟨(pk P all a).t.top, id, true, true, lftK P s all a, rgtK P s all b⟩
  | .D a b => ⟨id, (pk P all a).t.bot, true, true, lftK P s all a, rgtK P s all b⟩
  | .L => { (pk P all 0).t with hr := true, r := s.a }
  | .R => { (pk P all (all.length - 1)).t with hl := true, l := s.b }
/-- A run from a to b, of what goes on while 'g' is false. -/
def RunK (g : Nat → Bool) (j a b : Nat) : Prop := a ≤ b ∧ b < j ∧ (a = 0 ∨ g a = true) ∧ (∀ i, a < i → i ≤ b → g i = false) ∧ (b + 1 = j ∨ g (b + 1) = true)
def OkK (j : Nat) : Kd → Prop
  | .U a b => RunK (upK P s all) j a b
  | .D a b => RunK (dnK P s all) j a b
  | .L => 0 < j ∧ cbK P s all 0 = true
  | .R => j = all.length ∧ 0 < j ∧ ceK P s all (all.length - 1) = true
theorem run_end {g : Nat → Bool} {j a b b' : Nat} (h : RunK g j a b) (h' : RunK g j a b') : b = b' := by
  obtain ⟨h1, h2, h3, h4, h5⟩ := h
  obtain ⟨g1, g2, g3, g4, g5⟩ := h'
  rcases Nat.lt_trichotomy b b' with q | q | q
  · rcases h5 with h5 | h5
    · omega
    · rw [g4 (b + 1) (by omega) (by omega)] at h5; cases h5
  · exact q
  · rcases g5 with h5 | h5
    · omega
    · rw [h4 (b' + 1) (by omega) (by omega)] at h5; cases h5
theorem run_last {g : Nat → Bool} {j a a' b : Nat} (h : RunK g j a b) (h' : RunK g j a' b) : a = a' := by
  obtain ⟨h1, h2, h3, h4, h5⟩ := h
  obtain ⟨g1, g2, g3, g4, g5⟩ := h'
  rcases Nat.lt_trichotomy a a' with q | q | q
  · rcases g3 with g3 | g3
    · omega
    · rw [h4 a' (by omega) (by omega)] at g3; cases g3
  · exact q
  · rcases h3 with g3 | g3
    · omega
    · rw [g4 a (by omega) (by omega)] at g3; cases g3
/-- What is asked of the line and the trapezes through which it goes. -/
structure CtxK : Prop where
  pcs : ∀ k, k < all.length → ∃ n, all[k]? = some n ∧ P[n]? = some (pk P all k)
  nodup : all.Nodup
  wf : WfP N P
  nn : ∀ k k', k < all.length → k' < all.length → (pk P all k).n.toNat = (pk P all k').n.toNat → k = k'
  ids : ∀ k, k < all.length → (pk P all k).t.top ≠ id ∧ (pk P all k).t.bot ≠ id
  lft : ∀ k k', k < all.length → k' < all.length → lftK P s all k = lftK P s all k' → k = k'
  ab : lessB s.b s.a = false
def AtN (X : PSt) (i n : Nat) (K : Kd) : Prop := N.length ≤ n ∧ X.P[i]? = some ⟨tzK P id s all K, (n : Int), false⟩ ∧ X.N[n]? = some (lfN i)
/-- The question in place of an old leaf. -/
def QK (X : PSt) (k u d : Nat) : Prop := ∃ q1 q2 q3, q1 = (⟨2, id, ⟨0, 0⟩, (u : Int), (d : Int)⟩ : Nd) ∧
  (if ceK P s all k then ∃ c e i : Nat, N.length ≤ c ∧ X.N[c]? = some q1 ∧ P.length ≤ i ∧ AtN N P id s all X i e .R ∧ q2 = ⟨1, 0, s.b, (c : Int), (e : Int)⟩ else q2 = q1) ∧
  (if cbK P s all k then ∃ c e i : Nat, N.length ≤ c ∧ X.N[c]? = some q2 ∧ P.length ≤ i ∧ AtN N P id s all X i e .L ∧ q3 = ⟨1, 0, s.a, (e : Int), (c : Int)⟩ else q3 = q2) ∧
  X.N[(pk P all k).n.toNat]? = some q3
structure CI (j : Nat) (X : PSt) : Prop where
  pl : P.length ≤ X.P.length
  nl : N.length ≤ X.N.length
  oldP : ∀ i, i < P.length → i ∉ all.take j → X.P[i]? = P[i]?
  gone : ∀ i, i ∈ all.take j → ∃ p, X.P[i]? = some p ∧ p.g = true
  oldN : ∀ i, i < N.length → (∀ k, k < j → (pk P all k).n.toNat ≠ i) → X.N[i]? = N[i]?
  new : ∀ i, P.length ≤ i → i < X.P.length → ∃ K n, OkK P s all j K ∧ AtN N P id s all X i n K
  one : ∀ i i' n n' K K', P.length ≤ i → P.length ≤ i' → OkK P s all j K → OkK P s all j K' → AtN N P id s all X i n K → AtN N P id s all X i' n' K' → K.tag = K'.tag → i = i'
  F : ∀ k, k < j → ∃ u d pu pd su eu sd ed, su ≤ k ∧ k ≤ eu ∧ sd ≤ k ∧ k ≤ ed ∧ P.length ≤ pu ∧ P.length ≤ pd ∧ OkK P s all j (.U su eu) ∧ OkK P s all j (.D sd ed) ∧ AtN N P id s all X pu u (.U su eu) ∧ AtN N P id s all X pd d (.D sd ed) ∧
    (k + 1 = j → u = X.u ∧ d = X.d) ∧ QK N P id s all X k u d
variable {N P id s all}
theorem ok_tag {j : Nat} {K K' : Kd} (h : OkK P s all j K) (h' : OkK P s all j K') (ht : K.tag = K'.tag) : K = K' := by
  cases K <;> cases K' <;> simp [Kd.tag] at ht
  · subst ht; rw [run_end h h']
  · subst ht; rw [run_end h h']
  · rfl
  · rfl
theorem tz_tag (C : CtxK N P id s all) {j : Nat} {K K' : Kd} (hj : j ≤ all.length) (h : OkK P s all j K) (h' : OkK P s all j K') (ht : tzK P id s all K = tzK P id s all K') : K.tag = K'.tag := by
  have lt : ∀ {g a b}, RunK g j a b → a < all.length := fun h => Nat.lt_of_le_of_lt h.1 (Nat.lt_of_lt_of_le h.2.1 hj)
  have pos : ∀ {K}, OkK P s all j K → 0 < j := by
    intro K hK
    cases K
    · exact Nat.lt_of_le_of_lt (Nat.zero_le _) hK.2.1
    · exact Nat.lt_of_le_of_lt (Nat.zero_le _) hK.2.1
    · exact hK.1
    · exact hK.2.1
  have hp := pos h
  have i0 := C.ids 0 (by omega)
  have i1 := C.ids (all.length - 1) (by omega)
  have LR : OkK P s all j .L → tzK P id s all .L ≠ tzK P id s all .R := by
    intro h1 e
    simp only [tzK, Tz.mk.injEq] at e
    obtain ⟨_, _, e3, _, e5, _⟩ := e
    have := h1.2
    unfold cbK at this
    rw [e3, e5, C.ab] at this
    simp at this
  cases K <;> cases K'
  · simp only [tzK, Tz.mk.injEq] at ht
    rw [C.lft _ _ (lt h) (lt h') ht.2.2.2.2.1]; rfl
  · simp only [tzK, Tz.mk.injEq] at ht
    exact absurd ht.1 (C.ids _ (lt h)).1
  · simp only [tzK, Tz.mk.injEq] at ht
    exact absurd ht.2.1.symm i0.2
  · simp only [tzK, Tz.mk.injEq] at ht
    exact absurd ht.2.1.symm i1.2
  · simp only [tzK, Tz.mk.injEq] at ht
    exact absurd ht.1.symm (C.ids _ (lt h')).1
  · simp only [tzK, Tz.mk.injEq] at ht
    rw [C.lft _ _ (lt h) (lt h') ht.2.2.2.2.1]; rfl
  · simp only [tzK, Tz.mk.injEq] at ht
    exact absurd ht.1.symm i0.1
  · simp only [tzK, Tz.mk.injEq] at ht
    exact absurd ht.1.symm i1.1
  · simp only [tzK, Tz.mk.injEq] at ht
    exact absurd ht.2.1 i0.2
  · simp only [tzK, Tz.mk.injEq] at ht
    exact absurd ht.1 i0.1
  · rfl
  · exact absurd ht (LR h)
  · simp only [tzK, Tz.mk.injEq] at ht
    exact absurd ht.2.1 i1.2
  · simp only [tzK, Tz.mk.injEq] at ht
    exact absurd ht.1 i1.1
  · exact absurd ht.symm (LR h')
  · rfl
theorem ok_pos {j : Nat} {K : Kd} (hK : OkK P s all j K) : 0 < j := by
  cases K
  · exact Nat.lt_of_le_of_lt (Nat.zero_le _) hK.2.1
  · exact Nat.lt_of_le_of_lt (Nat.zero_le _) hK.2.1
  · exact hK.1
  · exact hK.2.1
theorem at_tz {X : PSt} {i n n' : Nat} {K K' : Kd} (h : AtN N P id s all X i n K) (h' : AtN N P id s all X i n' K') : tzK P id s all K = tzK P id s all K' ∧ n = n' := by
  have := h.2.1.symm.trans h'.2.1
  injection this with this
  simp only [Pc.mk.injEq] at this
  exact ⟨this.1, by omega⟩
theorem CI.start (C : CtxK N P id s all) : CI N P id s all 0 ⟨N, P, 0, 0⟩ where
  pl := Nat.le_refl _
  nl := Nat.le_refl _
  oldP i _ _ := rfl
  gone i hi := by simp at hi
  oldN i _ _ := rfl
  new i h1 h2 := absurd h2 (by show ¬ i < P.length; omega)
  one i i' n n' K K' h1 h2 hK := absurd (ok_pos hK) (by omega)
  F k hk := absurd hk (by omega)
/-- The piece that goes on above, below. -/
theorem CI.curU (C : CtxK N P id s all) {j : Nat} {X : PSt} (H : CI N P id s all j X) (hj : 0 < j) : ∃ pu su, P.length ≤ pu ∧ idN X.N X.u = pu ∧ OkK P s all j (.U su (j - 1)) ∧ AtN N P id s all X pu X.u (.U su (j - 1)) := by
  obtain ⟨u, d, pu, pd, su, eu, sd, ed, h1, h2, h3, h4, h5, h6, h7, h8, h9, h10, h11, h12⟩ := H.F (j - 1) (by omega)
  obtain ⟨rfl, rfl⟩ := h11 (by omega)
  obtain rfl : eu = j - 1 := by have := h7.2.1; omega
  exact ⟨pu, su, h5, by unfold idN; rw [h9.2.2]; simp [lfN], h7, h9⟩
theorem CI.curD (C : CtxK N P id s all) {j : Nat} {X : PSt} (H : CI N P id s all j X) (hj : 0 < j) : ∃ pd sd, P.length ≤ pd ∧ idN X.N X.d = pd ∧ OkK P s all j (.D sd (j - 1)) ∧ AtN N P id s all X pd X.d (.D sd (j - 1)) := by
  obtain ⟨u, d, pu, pd, su, eu, sd, ed, h1, h2, h3, h4, h5, h6, h7, h8, h9, h10, h11, h12⟩ := H.F (j - 1) (by omega)
  obtain ⟨rfl, rfl⟩ := h11 (by omega)
  obtain rfl : ed = j - 1 := by have := h8.2.1; omega
  exact ⟨pd, sd, h6, by unfold idN; rw [h10.2.2]; simp [lfN], h8, h10⟩
/-- A kind, a round later. -/
inductive ExtK : Kd → Kd → Prop
  | same (K) : ExtK K K
  | u (a b) : ExtK (.U a b) (.U a (b + 1))
  | d (a b) : ExtK (.D a b) (.D a (b + 1))
theorem ExtK.tag {K K' : Kd} (h : ExtK K K') : K.tag = K'.tag := by cases h <;> rfl
theorem CI.stab (C : CtxK N P id s all) {j n0 : Nat} {X Y : PSt} (H : CI N P id s all j X) (hj : j < all.length) (hn0 : n0 < P.length)
    (V : RV id s (decide (j = 0)) (decide (j + 1 = all.length)) n0 X Y (pk P all j) (lftK P s all j) (rgtK P s all j) (decide (j = 0) || upK P s all j) (decide (j = 0) || dnK P s all j) (ceK P s all j) (cbK P s all j)) (hon : (pk P all j).n.toNat < N.length)
    {i n : Nat} {K : Kd} (hi : P.length ≤ i) (hK : OkK P s all j K) (hA : AtN N P id s all X i n K) : ∃ K', OkK P s all (j + 1) K' ∧ AtN N P id s all Y i n K' ∧ ExtK K K' := by
  have j0 : 0 < j := ok_pos hK
  obtain ⟨pu, su, u1, u2, u3, u4⟩ := H.curU C j0
  obtain ⟨pd, sd, d1, d2, d3, d4⟩ := H.curD C j0
  have hjl : j ≤ all.length := Nat.le_of_lt hj
  have hf : decide (j = 0) = false := decide_eq_false (by omega)
  rw [hf] at V
  simp only [Bool.false_or] at V
  have iX := (List.getElem?_eq_some_iff.1 hA.2.1).1
  have nX := (List.getElem?_eq_some_iff.1 hA.2.2).1
  have node : Y.N[n]? = some (lfN i) := by
    rw [V.oldN n nX (by have := hA.1; omega)]; exact hA.2.2
  -- who it isn't
  have nu : K.tag ≠ (Kd.U su (j - 1)).tag → i ≠ idN X.N X.u := fun h e => by
    rw [u2] at e; subst e
    exact h (tz_tag C hjl hK u3 (at_tz hA u4).1)
  have nd : K.tag ≠ (Kd.D sd (j - 1)).tag → i ≠ idN X.N X.d := fun h e => by
    rw [d2] at e; subst e
    exact h (tz_tag C hjl hK d3 (at_tz hA d4).1)
  have stay : (upK P s all j = true ∨ i ≠ idN X.N X.u) → (dnK P s all j = true ∨ i ≠ idN X.N X.d) → AtN N P id s all Y i n K := fun h1 h2 =>
    ⟨hA.1, (V.old i iX (by omega) h1 h2).trans hA.2.1, node⟩
  cases K with
  | U a b =>
    obtain ⟨k1, k2, k3, k4, k5⟩ := hK
    have hd : i ≠ idN X.N X.d := nd (by simp [Kd.tag])
    by_cases hb : b + 1 = j
    · obtain rfl : b = j - 1 := by omega
      have : i = idN X.N X.u := by
        rw [u2]
        have e : a = su := run_last (g := upK P s all) (j := j) ⟨k1, k2, k3, k4, k5⟩ u3
        exact H.one _ _ _ _ _ _ hi u1 (show OkK P s all j (.U a (j - 1)) from ⟨k1, k2, k3, k4, k5⟩) u3 hA u4 (by simp [Kd.tag, e])
      cases hu : upK P s all j
      · refine ⟨.U a (j - 1 + 1), ⟨by omega, by omega, k3, fun q q1 q2 => ?_, .inl (by omega)⟩, ⟨hA.1, ?_, node⟩, .u _ _⟩
        · by_cases e : q = j
          · rw [e]; exact hu
          · exact k4 q q1 (by omega)
        · have := (V.u0 hu).2 _ (by rw [← this]; exact hA.2.1)
          rw [← this] at this
          rw [‹i = idN X.N X.u›]
          rw [show j - 1 + 1 = j by omega]
          exact (V.u0 hu).2 _ (by rw [← ‹i = idN X.N X.u›]; exact hA.2.1)
      · exact ⟨.U a (j - 1), ⟨k1, by omega, k3, k4, .inr (by rw [hb]; exact hu)⟩, stay (.inl hu) (.inr hd), .same _⟩
    · have hg : upK P s all (b + 1) = true := by rcases k5 with k5 | k5; · exact absurd k5 hb
                                                 · exact k5
      have hne : a ≠ su := by
        rintro rfl
        have := run_end (g := upK P s all) (j := j) ⟨k1, k2, k3, k4, k5⟩ u3
        omega
      exact ⟨.U a b, ⟨k1, by omega, k3, k4, .inr hg⟩, stay (.inr (nu (by simp [Kd.tag, hne]))) (.inr hd), .same _⟩
  | D a b =>
    obtain ⟨k1, k2, k3, k4, k5⟩ := hK
    have hd : i ≠ idN X.N X.u := nu (by simp [Kd.tag])
    by_cases hb : b + 1 = j
    · obtain rfl : b = j - 1 := by omega
      have : i = idN X.N X.d := by
        rw [d2]
        have e : a = sd := run_last (g := dnK P s all) (j := j) ⟨k1, k2, k3, k4, k5⟩ d3
        exact H.one _ _ _ _ _ _ hi d1 (show OkK P s all j (.D a (j - 1)) from ⟨k1, k2, k3, k4, k5⟩) d3 hA d4 (by simp [Kd.tag, e])
      cases hu : dnK P s all j
      · refine ⟨.D a (j - 1 + 1), ⟨by omega, by omega, k3, fun q q1 q2 => ?_, .inl (by omega)⟩, ⟨hA.1, ?_, node⟩, .d _ _⟩
        · by_cases e : q = j
          · rw [e]; exact hu
          · exact k4 q q1 (by omega)
        · rw [‹i = idN X.N X.d›]
          rw [show j - 1 + 1 = j by omega]
          exact (V.d0 hu).2 _ (by rw [← ‹i = idN X.N X.d›]; exact hA.2.1)
      · exact ⟨.D a (j - 1), ⟨k1, by omega, k3, k4, .inr (by rw [hb]; exact hu)⟩, stay (.inr hd) (.inl hu), .same _⟩
    · have hg : dnK P s all (b + 1) = true := by rcases k5 with k5 | k5; · exact absurd k5 hb
                                                 · exact k5
      have hne : a ≠ sd := by
        rintro rfl
        have := run_end (g := dnK P s all) (j := j) ⟨k1, k2, k3, k4, k5⟩ d3
        omega
      exact ⟨.D a b, ⟨k1, by omega, k3, k4, .inr hg⟩, stay (.inr hd) (.inr (nd (by simp [Kd.tag, hne]))), .same _⟩
  | L => exact ⟨.L, ⟨by omega, hK.2⟩, stay (.inr (nu (by simp [Kd.tag]))) (.inr (nd (by simp [Kd.tag]))), .same _⟩
  | R => exact absurd hK.1 (by omega)
/-- What a round makes anew. -/
theorem CI.newK (C : CtxK N P id s all) {j n0 : Nat} {X Y : PSt} (H : CI N P id s all j X) (hj : j < all.length)
    (V : RV id s (decide (j = 0)) (decide (j + 1 = all.length)) n0 X Y (pk P all j) (lftK P s all j) (rgtK P s all j) (decide (j = 0) || upK P s all j) (decide (j = 0) || dnK P s all j) (ceK P s all j) (cbK P s all j))
    {i : Nat} (h1 : X.P.length ≤ i) (h2 : i < Y.P.length) : ∃ K n, OkK P s all (j + 1) K ∧ AtN N P id s all Y i n K ∧ ((K.tag = (0, j) ∧ i = X.P.length) ∨ (K.tag = (1, j) ∧ i = X.P.length + (decide (j = 0) || upK P s all j).toNat) ∨
      (K.tag = (3, 0) ∧ i = X.P.length + (decide (j = 0) || upK P s all j).toNat + (decide (j = 0) || dnK P s all j).toNat) ∨ (K.tag = (2, 0) ∧ j = 0 ∧ i = X.P.length + (decide (j = 0) || upK P s all j).toNat + (decide (j = 0) || dnK P s all j).toNat + (ceK P s all j).toNat)) := by
  have hpl := V.pl
  have hnl := H.nl
  obtain ⟨q1, q2, q3, _, hq2, hq3, _⟩ := V.q
  have hup : (decide (j = 0) || upK P s all j) = true → j = 0 ∨ upK P s all j = true := fun h => by simpa using h
  have hdn : (decide (j = 0) || dnK P s all j) = true → j = 0 ∨ dnK P s all j = true := fun h => by simpa using h
  have v1 := V.u1
  have v2 := V.d1
  generalize (decide (j = 0) || upK P s all j) = cu at *
  generalize (decide (j = 0) || dnK P s all j) = cd at *
  have b1 := Bool.toNat_le cu
  have b2 := Bool.toNat_le cd
  have b3 := Bool.toNat_le (ceK P s all j)
  have b4 := Bool.toNat_le (cbK P s all j)
  have pos : ∀ b : Bool, 0 < b.toNat → b = true := fun b h => by cases b; simp at h; rfl
  by_cases g1 : i < X.P.length + cu.toNat
  · have hc := pos cu (by omega)
    obtain ⟨_, a2, a3⟩ := v1 hc
    obtain rfl : i = X.P.length := by omega
    exact ⟨.U j j, X.N.length, ⟨Nat.le_refl _, by omega, hup hc, fun _ _ _ => by omega, .inl rfl⟩, ⟨hnl, a3, a2⟩, .inl ⟨rfl, rfl⟩⟩
  by_cases g2 : i < X.P.length + cu.toNat + cd.toNat
  · have hc := pos cd (by omega)
    obtain ⟨_, a2, a3⟩ := v2 hc
    obtain rfl : i = X.P.length + cu.toNat := by omega
    exact ⟨.D j j, X.N.length + cu.toNat, ⟨Nat.le_refl _, by omega, hdn hc, fun _ _ _ => by omega, .inl rfl⟩, ⟨by omega, a3, a2⟩, .inr (.inl ⟨rfl, rfl⟩)⟩
  by_cases g3 : i < X.P.length + cu.toNat + cd.toNat + (ceK P s all j).toNat
  · have hc := pos (ceK P s all j) (by omega)
    unfold QEnd at hq2
    rw [if_pos hc] at hq2
    obtain ⟨c, e, n1, n2, m1, m2, m3, _⟩ := hq2
    obtain rfl : i = X.P.length + cu.toNat + cd.toNat := by omega
    have hm : all.length - 1 = j := by
      unfold ceK at hc
      simp only [Bool.and_eq_true, decide_eq_true_eq] at hc
      omega
    refine ⟨.R, e, ⟨by omega, by omega, by rw [hm]; exact hc⟩, ⟨by omega, ?_, m2⟩, .inr (.inr (.inl ⟨rfl, rfl⟩))⟩
    simp only [tzK, hm]; exact m3
  · have hc := pos (cbK P s all j) (by omega)
    unfold QBeg at hq3
    rw [if_pos hc] at hq3
    obtain ⟨c, e, n1, n2, m1, m2, m3, _⟩ := hq3
    obtain rfl : i = X.P.length + cu.toNat + cd.toNat + (ceK P s all j).toNat := by omega
    have hm : j = 0 := by
      unfold cbK at hc
      simp only [Bool.and_eq_true, decide_eq_true_eq] at hc
      omega
    refine ⟨.L, e, ⟨by omega, by rw [hm] at hc; exact hc⟩, ⟨by omega, ?_, m2⟩, .inr (.inr (.inr ⟨rfl, hm, rfl⟩))⟩
    simp only [tzK]; subst hm; exact m3
theorem CI.step (C : CtxK N P id s all) {j n0 : Nat} {X Y : PSt} (H : CI N P id s all j X) (hj : j < all.length) (hn0 : all[j]? = some n0)
    (V : RV id s (decide (j = 0)) (decide (j + 1 = all.length)) n0 X Y (pk P all j) (lftK P s all j) (rgtK P s all j) (decide (j = 0) || upK P s all j) (decide (j = 0) || dnK P s all j) (ceK P s all j) (cbK P s all j)) : CI N P id s all (j + 1) Y := by
  obtain ⟨n', e1, e2⟩ := C.pcs j hj
  obtain rfl : n' = n0 := by rw [hn0] at e1; injection e1 with e1; exact e1.symm
  have hnP : n' < P.length := (List.getElem?_eq_some_iff.1 e2).1
  have hon : (pk P all j).n.toNat < N.length := by have := C.wf _ (List.mem_of_getElem? e2); omega
  have hpl := V.pl
  have hPl := H.pl
  have hNl := H.nl
  have hjl : j ≤ all.length := Nat.le_of_lt hj
  have take1 : all.take (j + 1) = all.take j ++ [n'] := by rw [List.take_add_one, hn0]; rfl
  have ntake : n' ∉ all.take j := by
    intro h
    obtain ⟨k, hk⟩ := List.getElem?_of_mem h
    have hkj : k < j := by
      have := (List.getElem?_eq_some_iff.1 hk).1
      rw [List.length_take] at this; omega
    rw [List.getElem?_take_of_lt hkj] at hk
    have := (List.getElem?_inj (i := k) (j := j) (by omega) C.nodup).1 (by rw [hk, hn0])
    omega
  have su := fun {i n K} h1 h2 h3 => H.stab (i := i) (n := n) (K := K) C hj hnP V hon h1 h2 h3
  -- old pieces aren't those that go on
  have ou : ∀ i, i < P.length → ((decide (j = 0) || upK P s all j) = true ∨ i ≠ idN X.N X.u) := fun i hi => by
    by_cases h0 : j = 0
    · left; simp [h0]
    · obtain ⟨pu, _, u1, u2, _⟩ := H.curU C (by omega)
      right; omega
  have od : ∀ i, i < P.length → ((decide (j = 0) || dnK P s all j) = true ∨ i ≠ idN X.N X.d) := fun i hi => by
    by_cases h0 : j = 0
    · left; simp [h0]
    · obtain ⟨pu, _, u1, u2, _⟩ := H.curD C (by omega)
      right; omega
  have hnew : ∀ i, P.length ≤ i → i < Y.P.length → ∃ K n, OkK P s all (j + 1) K ∧ AtN N P id s all Y i n K := fun i h1 h2 => by
    by_cases hx : i < X.P.length
    · obtain ⟨K, n, g1, g2⟩ := H.new i h1 hx
      obtain ⟨K', g3, g4, _⟩ := su h1 g1 g2
      exact ⟨K', n, g3, g4⟩
    · obtain ⟨K, n, g1, g2, _⟩ := H.newK C hj V (by omega) h2
      exact ⟨K, n, g1, g2⟩
  -- the place of a kind
  have place : ∀ i n K, P.length ≤ i → OkK P s all (j + 1) K → AtN N P id s all Y i n K →
      (i < X.P.length ∧ ∃ K0, OkK P s all j K0 ∧ AtN N P id s all X i n K0 ∧ K0.tag = K.tag) ∨
      ((K.tag = (0, j) ∧ i = X.P.length) ∨ (K.tag = (1, j) ∧ i = X.P.length + (decide (j = 0) || upK P s all j).toNat) ∨
      (K.tag = (3, 0) ∧ i = X.P.length + (decide (j = 0) || upK P s all j).toNat + (decide (j = 0) || dnK P s all j).toNat) ∨ (K.tag = (2, 0) ∧ j = 0 ∧ i = X.P.length + (decide (j = 0) || upK P s all j).toNat + (decide (j = 0) || dnK P s all j).toNat + (ceK P s all j).toNat)) := by
    intro i n K h1 h2 h3
    have hy := (List.getElem?_eq_some_iff.1 h3.2.1).1
    by_cases hx : i < X.P.length
    · left
      obtain ⟨K0, n0', g1, g2⟩ := H.new i h1 hx
      obtain ⟨K', g3, g4, g5⟩ := su h1 g1 g2
      obtain ⟨a1, a2⟩ := at_tz g4 h3
      subst a2
      exact ⟨hx, K0, g1, g2, g5.tag.trans (tz_tag C (j := j + 1) hj g3 h2 a1)⟩
    · right
      obtain ⟨K', n0', g1, g2, g3⟩ := H.newK C hj V (by omega) hy
      have := tz_tag C (j := j + 1) hj g1 h2 (at_tz g2 h3).1
      rw [← this]; exact g3
  have otag : ∀ K0, OkK P s all j K0 → (∃ a b, a < j ∧ (K0 = .U a b ∨ K0 = .D a b)) ∨ (K0 = .L ∧ 0 < j) := by
    intro K0 h
    cases K0 with
    | U a b => exact .inl ⟨a, b, Nat.lt_of_le_of_lt h.1 h.2.1, .inl rfl⟩
    | D a b => exact .inl ⟨a, b, Nat.lt_of_le_of_lt h.1 h.2.1, .inr rfl⟩
    | L => exact .inr ⟨rfl, h.1⟩
    | R => exact absurd h.1 (by omega)
  refine ⟨by omega, Nat.le_trans H.nl V.nl, fun i h1 h2 => ?_, fun i hi => ?_, fun i h1 h2 => ?_, hnew, fun i i' n n' K K' h1 h2 h3 h4 h5 h6 h7 => ?_, fun k hk => ?_⟩
  · rw [take1, List.mem_append, List.mem_singleton, not_or] at h2
    rw [V.old i (by omega) h2.2 (ou i h1) (od i h1)]
    exact H.oldP i h1 h2.1
  · rw [take1, List.mem_append, List.mem_singleton] at hi
    rcases hi with hi | rfl
    · obtain ⟨p, g1, g2⟩ := H.gone i hi
      have hiP : i < P.length := by
        obtain ⟨k, hk⟩ := List.getElem?_of_mem hi
        have hkl := (List.getElem?_eq_some_iff.1 hk).1
        rw [List.length_take] at hkl
        rw [List.getElem?_take_of_lt (by omega)] at hk
        obtain ⟨n2, b1, b2⟩ := C.pcs k (by omega)
        rw [hk] at b1
        injection b1 with b1
        rw [b1]; exact (List.getElem?_eq_some_iff.1 b2).1
      exact ⟨p, (V.old i (by omega) (by rintro rfl; exact ntake hi) (ou i hiP) (od i hiP)).trans g1, g2⟩
    · exact ⟨_, V.gone, rfl⟩
  · rw [V.oldN i (by omega) (fun e => h2 j (by omega) e.symm)]
    exact H.oldN i h1 fun k hk => h2 k (by omega)
  · rcases place i n K h1 h3 h5 with ⟨_, K0, a1, a2, a3⟩ | a <;> rcases place i' n' K' h2 h4 h6 with ⟨_, K1, b1, b2, b3⟩ | b
    · exact H.one _ _ _ _ _ _ h1 h2 a1 b1 a2 b2 (by rw [a3, b3, h7])
    · exfalso
      rw [← h7, ← a3] at b
      rcases otag K0 a1 with ⟨a, b', hab, rfl | rfl⟩ | ⟨rfl, h0⟩ <;> simp [Kd.tag] at b
      · omega
      · omega
      · omega
    · exfalso
      rw [h7, ← b3] at a
      rcases otag K1 b1 with ⟨a', b', hab, rfl | rfl⟩ | ⟨rfl, h0⟩ <;> simp [Kd.tag] at a
      · omega
      · omega
      · omega
    · rw [← h7] at b
      rcases a with ⟨t, rfl⟩ | ⟨t, rfl⟩ | ⟨t, rfl⟩ | ⟨t, _, rfl⟩ <;> rw [t] at b <;> simp at b <;> omega
  · by_cases hkj : k < j
    · obtain ⟨u, d, pu, pd, su', eu, sd, ed, h1, h2, h3, h4, h5, h6, h7, h8, h9, h10, _, q1, q2, q3, h11, h12, h13, h14⟩ := H.F k hkj
      obtain ⟨Ku, a1, a2, a3⟩ := su h5 h7 h9
      obtain ⟨Kd', b1, b2, b3⟩ := su h6 h8 h10
      obtain ⟨eu', rfl, hu'⟩ : ∃ e, Ku = .U su' e ∧ eu ≤ e := by cases a3; exact ⟨eu, rfl, Nat.le_refl _⟩; exact ⟨eu + 1, rfl, by omega⟩
      obtain ⟨ed', rfl, hd'⟩ : ∃ e, Kd' = .D sd e ∧ ed ≤ e := by cases b3; exact ⟨ed, rfl, Nat.le_refl _⟩; exact ⟨ed + 1, rfl, by omega⟩
      have ce0 : ceK P s all k = false := by unfold ceK; rw [decide_eq_false (by omega)]; rfl
      have keep : ∀ c q, N.length ≤ c → X.N[c]? = some q → Y.N[c]? = some q := fun c q g1 g2 => by
        rw [V.oldN c (List.getElem?_eq_some_iff.1 g2).1 (by omega)]; exact g2
      refine ⟨u, d, pu, pd, su', eu', sd, ed', h1, by omega, h3, by omega, h5, h6, a1, b1, a2, b2, fun h => absurd h (by omega), q1, q2, q3, h11, ?_, ?_, ?_⟩
      · rw [ce0] at h12 ⊢; exact h12
      · cases hcb : cbK P s all k
        · rw [hcb] at h13; exact h13
        · rw [hcb, if_pos rfl] at h13
          rw [if_pos rfl]
          obtain ⟨c, e, i, g1, g2, g3, g4, g5⟩ := h13
          have k0 : k = 0 := by
            unfold cbK at hcb
            simp only [Bool.and_eq_true, decide_eq_true_eq] at hcb
            exact hcb.1
          obtain ⟨K', g6, g7, g8⟩ := su g3 (K := .L) ⟨by omega, by rw [← k0]; exact hcb⟩ g4
          cases g8
          exact ⟨c, e, i, g1, keep c _ g1 g2, g3, g7, g5⟩
      · have hk' : (pk P all k).n.toNat < N.length := by
          obtain ⟨n2, c1, c2⟩ := C.pcs k (by omega)
          have := C.wf _ (List.mem_of_getElem? c2); omega
        rw [V.oldN _ (by omega) (fun e => by have := C.nn _ _ (by omega) hj e; omega)]
        exact h14
    · obtain rfl : k = j := by omega
      have hU : ∃ pu su, su ≤ k ∧ P.length ≤ pu ∧ OkK P s all (k + 1) (.U su k) ∧ AtN N P id s all Y pu Y.u (.U su k) := by
        cases hc : (decide (k = 0) || upK P s all k)
        · have hk0 : 0 < k := by
            simp only [Bool.or_eq_false_iff, decide_eq_false_iff_not] at hc
            omega
          obtain ⟨pu, su', u1, u2, u3, u4⟩ := H.curU C hk0
          obtain ⟨K', a1, a2, a3⟩ := su u1 u3 u4
          have hu0 := (V.u0 hc).1
          rw [← hu0] at a2
          have hne : upK P s all k = false := by simp only [Bool.or_eq_false_iff] at hc; exact hc.2
          cases a3
          · exfalso
            obtain ⟨_, _, _, _, h5⟩ := a1
            rw [show k - 1 + 1 = k by omega] at h5
            rcases h5 with h5 | h5
            · omega
            · rw [hne] at h5; cases h5
          · rw [show k - 1 + 1 = k by omega] at a1 a2
            exact ⟨pu, su', a1.1, u1, a1, a2⟩
        · obtain ⟨a1, a2, a3⟩ := V.u1 hc
          refine ⟨X.P.length, k, Nat.le_refl _, hPl, ⟨Nat.le_refl _, by omega, by simpa using hc, fun _ _ _ => by omega, .inl rfl⟩, ?_⟩
          rw [a1]; exact ⟨hNl, a3, a2⟩
      have hD : ∃ pd sd, sd ≤ k ∧ P.length ≤ pd ∧ OkK P s all (k + 1) (.D sd k) ∧ AtN N P id s all Y pd Y.d (.D sd k) := by
        cases hc : (decide (k = 0) || dnK P s all k)
        · have hk0 : 0 < k := by
            simp only [Bool.or_eq_false_iff, decide_eq_false_iff_not] at hc
            omega
          obtain ⟨pu, su', u1, u2, u3, u4⟩ := H.curD C hk0
          obtain ⟨K', a1, a2, a3⟩ := su u1 u3 u4
          have hu0 := (V.d0 hc).1
          rw [← hu0] at a2
          have hne : dnK P s all k = false := by simp only [Bool.or_eq_false_iff] at hc; exact hc.2
          cases a3
          · exfalso
            obtain ⟨_, _, _, _, h5⟩ := a1
            rw [show k - 1 + 1 = k by omega] at h5
            rcases h5 with h5 | h5
            · omega
            · rw [hne] at h5; cases h5
          · rw [show k - 1 + 1 = k by omega] at a1 a2
            exact ⟨pu, su', a1.1, u1, a1, a2⟩
        · obtain ⟨a1, a2, a3⟩ := V.d1 hc
          refine ⟨X.P.length + (decide (k = 0) || upK P s all k).toNat, k, Nat.le_refl _, by omega, ⟨Nat.le_refl _, by omega, by simpa using hc, fun _ _ _ => by omega, .inl rfl⟩, ?_⟩
          rw [a1]; exact ⟨by omega, a3, a2⟩
      obtain ⟨pu, su', u1, u2, u3, u4⟩ := hU
      obtain ⟨pd, sd, d1, d2, d3, d4⟩ := hD
      obtain ⟨q1, q2, q3, h11, h12, h13, h14⟩ := V.q
      refine ⟨Y.u, Y.d, pu, pd, su', k, sd, k, u1, Nat.le_refl _, d1, Nat.le_refl _, u2, d2, u3, d3, u4, d4, fun _ => ⟨rfl, rfl⟩, q1, q2, q3, h11, ?_, ?_, h14⟩
      · unfold QEnd at h12
        cases hc : ceK P s all k
        · rw [hc] at h12; exact h12
        · rw [hc, if_pos rfl] at h12
          rw [if_pos rfl]
          obtain ⟨c, e, n1, n2, m1, m2, m3, m4⟩ := h12
          have hm : all.length - 1 = k := by
            unfold ceK at hc
            simp only [Bool.and_eq_true, decide_eq_true_eq] at hc
            omega
          exact ⟨c, e, _, by omega, m1, by omega, ⟨by omega, by simp only [tzK, hm]; exact m3, m2⟩, m4⟩
      · unfold QBeg at h13
        cases hc : cbK P s all k
        · rw [hc] at h13; exact h13
        · rw [hc, if_pos rfl] at h13
          rw [if_pos rfl]
          obtain ⟨c, e, n1, n2, m1, m2, m3, m4⟩ := h13
          have hm : k = 0 := by
            unfold cbK at hc
            simp only [Bool.and_eq_true, decide_eq_true_eq] at hc
            exact hc.1
          exact ⟨c, e, _, by omega, m1, by omega, ⟨by omega, by simp only [tzK]; rw [hm] at m3; rw [hm]; exact m3, m2⟩, m4⟩
theorem rounds_CI (C : CtxK N P id s all) (hg : ∀ k, k < all.length → (pk P all k).g = false) : ∀ j, j ≤ all.length → CI N P id s all j (roundsS id s all j ⟨N, P, 0, 0⟩)
  | 0, _ => CI.start C
  | j + 1, hj => by
    have H := rounds_CI C hg j (by omega)
    obtain ⟨n, e1, e2⟩ := C.pcs j (by omega)
    have hin : ∀ n ∈ all, ∃ p, P[n]? = some p ∧ p.g = false := fun n hn => by
      obtain ⟨k, hk⟩ := List.getElem?_of_mem hn
      have hkl := (List.getElem?_eq_some_iff.1 hk).1
      obtain ⟨n2, b1, b2⟩ := C.pcs k hkl
      rw [hk] at b1
      injection b1 with b1
      exact ⟨_, by rw [b1]; exact b2, hg k hkl⟩
    obtain ⟨I, L, _⟩ := roundsS_size (id := id) (s := s) C.wf C.nodup hin j (by omega)
    have hdrop : all.drop j = n :: all.drop (j + 1) := by
      rw [List.drop_eq_getElem_cons (List.getElem?_eq_some_iff.1 e1).1, (List.getElem?_eq_some_iff.1 e1).2]
    rw [hdrop] at I
    have e : roundsS id s all (j + 1) ⟨N, P, 0, 0⟩ = roundS id s (decide (j = 0)) (decide (j + 1 = all.length)) n (roundsS id s all j ⟨N, P, 0, 0⟩) := by
      show roundS id s _ _ ((all[j]?).getD 0) _ = _
      rw [e1]; rfl
    rw [e]
    have V := roundS_view (id := id) (s := s) (f := decide (j = 0)) (la := decide (j + 1 = all.length)) I (fun h => L (by have := of_decide_eq_false h; omega)) e2 (fun h => by
      have hj0 : 0 < j := by have := of_decide_eq_false h; omega
      obtain ⟨pu, su', u1, u2, u3, u4⟩ := H.curU C hj0
      obtain ⟨pd, sd, d1, d2, d3, d4⟩ := H.curD C hj0
      intro hh
      rw [u2, d2] at hh
      subst hh
      have := tz_tag C (by omega) u3 d3 (at_tz u4 d4).1
      simp [Kd.tag] at this)
    refine H.step C (by omega) e1 ?_
    have q1 : (if decide (j = 0) = true then s.a else (pk P all j).t.l) = lftK P s all j := by unfold lftK; simp only [decide_eq_true_eq]
    have q2 : (if decide (j + 1 = all.length) = true then s.b else (pk P all j).t.r) = rgtK P s all j := by unfold rgtK; simp only [decide_eq_true_eq]
    rw [q1, q2] at V
    exact V
end
end Go.Proofs.Ytlhmjhildlnokaa

/-
  Lines, seen a little from the side (of two points the lesser one stands left): how high they stand at a place; those that don't meet keep their order. No walk stands here.
-/
namespace Go.Proofs.Ytlhmjhildlnokaa
set_option linter.unusedVariables false
set_option linter.unusedSimpArgs false

theorem rat_pos_of_mul {a b : Rat} (h : 0 < a * b) (hb : 0 < b) : 0 < a := by
  by_cases ha : 0 < a
  · exact ha
  · have h1 : 0 ≤ -a := by grind
    have := Rat.mul_nonneg h1 (Rat.le_of_lt hb)
    grind
theorem rat_mul_pos {a b : Rat} (ha : 0 < a) (hb : 0 < b) : 0 < a * b := Rat.mul_pos ha hb
theorem rat_zero_of_mul {a b : Rat} (h : a * b = 0) (hb : 0 < b) : a = 0 := by
  rcases Rat.mul_eq_zero.1 h with h | h
  · exact h
  · grind
structure Ln where
  x1 : Rat
  y1 : Rat
  x2 : Rat
  y2 : Rat
def Ln.m (s : Ln) : Rat := (s.y2 - s.y1) / (s.x2 - s.x1)
def Ln.at (s : Ln) (x : Rat) : Rat := s.y1 + s.m * (x - s.x1)
def Ln.spans (s : Ln) (x : Rat) : Prop := s.x1 < x ∧ x < s.x2
theorem Ln.at_1 (s : Ln) : s.at s.x1 = s.y1 := by unfold Ln.at; grind
theorem Ln.at_2 (s : Ln) (h : s.x1 < s.x2) : s.at s.x2 = s.y2 := by
  unfold Ln.at Ln.m
  have : s.x2 - s.x1 ≠ 0 := by grind
  grind
theorem Ln.affine (s : Ln) (x y : Rat) : s.at y - s.at x = s.m * (y - x) := by unfold Ln.at; grind
/-- They don't cross. -/
def Ln.Sep (s t : Ln) : Prop := ∀ x, s.spans x → t.spans x → s.at x ≠ t.at x
theorem Ln.Sep.symm {s t : Ln} (h : s.Sep t) : t.Sep s := fun x h1 h2 e => h x h2 h1 e.symm
/-- What stands above stays above. -/
theorem Ln.Sep.keeps {s t : Ln} (h : s.Sep t) {x y : Rat} (sx : s.spans x) (tx : t.spans x) (sy : s.spans y) (ty : t.spans y) (hlt : s.at x < t.at x) : s.at y < t.at y := by
  by_cases hy : s.at y < t.at y
  · exact hy
  exfalso
  have hne := h y sy ty
  -- where they cross
  generalize hd : t.at x - s.at x = d
  generalize he : s.at y - t.at y = e
  have d0 : 0 < d := by grind
  have e0 : 0 < e := by grind
  have de : 0 < d + e := by grind
  have de' : d + e ≠ 0 := by grind
  generalize hz : (x * e + y * d) / (d + e) = z
  have hz' : z * (d + e) = x * e + y * d := by rw [← hz]; exact Rat.div_mul_cancel de'
  have a1 := s.affine x z
  have a2 := t.affine x z
  have a3 := s.affine x y
  have a4 := t.affine x y
  have lo : ∀ c : Rat, c < x → c < y → c < z := fun c h1 h2 => by
    have p1 := rat_mul_pos (by grind : 0 < x - c) e0
    have p2 := rat_mul_pos (by grind : 0 < y - c) d0
    have : 0 < (z - c) * (d + e) := by grind
    have := rat_pos_of_mul this de
    grind
  have hi : ∀ c : Rat, x < c → y < c → z < c := fun c h1 h2 => by
    have p1 := rat_mul_pos (by grind : 0 < c - x) e0
    have p2 := rat_mul_pos (by grind : 0 < c - y) d0
    have : 0 < (c - z) * (d + e) := by grind
    have := rat_pos_of_mul this de
    grind
  have sz : s.spans z := ⟨lo _ sx.1 sy.1, hi _ sx.2 sy.2⟩
  have tz : t.spans z := ⟨lo _ tx.1 ty.1, hi _ tx.2 ty.2⟩
  refine h z sz tz ?_
  -- (s - t) at z, times d + e
  have e1 : (s.at z - t.at z) * (d + e) = 0 := by
    have b1 : s.at z - t.at z = (s.m - t.m) * (z - x) - d := by grind
    have b2 : (s.m - t.m) * (y - x) = d + e := by grind
    have b3 : (z - x) * (d + e) = (y - x) * d := by grind
    have : (s.at z - t.at z) * (d + e) = (s.m - t.m) * ((z - x) * (d + e)) - d * (d + e) := by rw [b1]; grind
    rw [this, b3]
    grind
  have := rat_zero_of_mul e1 de
  grind
def Xi (p : Pt) : Int := p.x * 1073741824 + p.y
def Xr (p : Pt) : Rat := (Xi p : Rat)
def Yr (p : Pt) : Rat := (p.y : Rat)
theorem less_Xi {a b : Pt} (ha : InP a) (hb : InP b) : LessP a b ↔ Xi a < Xi b := by
  unfold LessP Xi InP at *; omega
theorem Xi_inj {a b : Pt} (ha : InP a) (hb : InP b) (h : Xi a = Xi b) : a = b := by
  obtain ⟨x, y⟩ := a; obtain ⟨u, v⟩ := b
  unfold Xi InP at *
  simp only at *
  have : x = u := by omega
  have : y = v := by omega
  simp [*]
theorem less_Xr {a b : Pt} (ha : InP a) (hb : InP b) : LessP a b ↔ Xr a < Xr b := by
  rw [less_Xi ha hb]; unfold Xr; exact Rat.intCast_lt_intCast.symm
theorem cross_r (a b c : Pt) : (Xr b - Xr a) * (Yr c - Yr a) - (Yr b - Yr a) * (Xr c - Xr a) = 1073741824 * (crossZ a b c : Rat) := by
  unfold Xr Yr Xi crossZ
  simp only [Rat.intCast_add, Rat.intCast_mul, Rat.intCast_sub]
  grind
def lnOf (a b : Pt) : Ln := ⟨Xr a, Yr a, Xr b, Yr b⟩
theorem at_cross {a b : Pt} (h : Xr a < Xr b) (c : Pt) : (Yr c - (lnOf a b).at (Xr c)) * (Xr b - Xr a) = 1073741824 * (crossZ a b c : Rat) := by
  rw [← cross_r]
  unfold Ln.at Ln.m lnOf
  simp only
  have : Xr b - Xr a ≠ 0 := by grind
  grind
theorem at_pos {a b : Pt} (h : Xr a < Xr b) (c : Pt) : (lnOf a b).at (Xr c) < Yr c ↔ 0 < crossZ a b c := by
  have e := at_cross h c
  have hp : 0 < Xr b - Xr a := by grind
  rw [← Rat.intCast_lt_intCast]
  constructor
  · intro h1
    have := rat_mul_pos (by grind : 0 < Yr c - (lnOf a b).at (Xr c)) hp
    grind
  · intro h1
    have : 0 < (Yr c - (lnOf a b).at (Xr c)) * (Xr b - Xr a) := by grind
    have := rat_pos_of_mul this hp
    grind
theorem at_neg {a b : Pt} (h : Xr a < Xr b) (c : Pt) : Yr c < (lnOf a b).at (Xr c) ↔ crossZ a b c < 0 := by
  have e := at_cross h c
  have hp : 0 < Xr b - Xr a := by grind
  rw [← Rat.intCast_lt_intCast]
  constructor
  · intro h1
    have := rat_mul_pos (by grind : 0 < (lnOf a b).at (Xr c) - Yr c) hp
    grind
  · intro h1
    have : 0 < ((lnOf a b).at (Xr c) - Yr c) * (Xr b - Xr a) := by grind
    have := rat_pos_of_mul this hp
    grind
theorem at_zero {a b : Pt} (h : Xr a < Xr b) (c : Pt) : Yr c = (lnOf a b).at (Xr c) ↔ crossZ a b c = 0 := by
  have h1 := at_pos h c
  have h2 := at_neg h c
  constructor
  · intro e
    have h3 : ¬ (lnOf a b).at (Xr c) < Yr c := by grind
    have h4 : ¬ Yr c < (lnOf a b).at (Xr c) := by grind
    rw [h1] at h3
    rw [h2] at h4
    omega
  · intro e
    have h3 : ¬ 0 < crossZ a b c := by omega
    have h4 : ¬ crossZ a b c < 0 := by omega
    rw [← h1] at h3
    rw [← h2] at h4
    grind
theorem tsgn_pos {n : Int} (h : 0 < n) : sgnZ n = 1 := by unfold sgnZ; rw [if_neg (by omega), if_pos h]
theorem tsgn_neg {n : Int} (h : n < 0) : sgnZ n = -1 := by unfold sgnZ; rw [if_pos h]
theorem tsgn_zero {n : Int} (h : n = 0) : sgnZ n = 0 := by subst h; rfl
theorem on_no {p a b : Pt} (ip : InP p) (ia : InP a) (ib : InP b) (hz : crossZ a b p = 0) (h : onL p a b = false) : ¬ (Xr a < Xr p ∧ Xr p < Xr b) := by
  rintro ⟨h1, h2⟩
  unfold onL turnZ betwB lessB at h
  rw [tsgn_zero hz, decide_eq_true ((less_Xr ia ip).2 h1), decide_eq_true ((less_Xr ip ib).2 h2)] at h
  simp at h
/-- Two lines that don't meet don't cross. -/
theorem sep_of {a b c d : Pt} (ia : InP a) (ib : InP b) (ic : InP c) (id : InP d) (hab : Xr a < Xr b) (hcd : Xr c < Xr d) (h : meetL a b c d = false) : (lnOf a b).Sep (lnOf c d) := by
  intro x s t e
  have s1 : Xr a < x := s.1
  have s2 : x < Xr b := s.2
  have t1 : Xr c < x := t.1
  have t2 : x < Xr d := t.2
  have aa : (lnOf a b).at (Xr a) = Yr a := (lnOf a b).at_1
  have ab : (lnOf a b).at (Xr b) = Yr b := (lnOf a b).at_2 hab
  have cc : (lnOf c d).at (Xr c) = Yr c := (lnOf c d).at_1
  have cd : (lnOf c d).at (Xr d) = Yr d := (lnOf c d).at_2 hcd
  have ea := (lnOf a b).affine x (Xr a)
  have eb := (lnOf a b).affine x (Xr b)
  have ec := (lnOf a b).affine x (Xr c)
  have ed := (lnOf a b).affine x (Xr d)
  have fa := (lnOf c d).affine x (Xr a)
  have fb := (lnOf c d).affine x (Xr b)
  have fc := (lnOf c d).affine x (Xr c)
  have fd := (lnOf c d).affine x (Xr d)
  generalize hm : (lnOf a b).m = m at *
  generalize hk : (lnOf c d).m = k at *
  simp only [meetL, Bool.or_eq_false_iff] at h
  obtain ⟨⟨o1, o2, o3, o4⟩, sm, ap⟩ := h
  have pa := at_pos hcd a
  have na := at_neg hcd a
  have za := at_zero hcd a
  have pb := at_pos hcd b
  have nb := at_neg hcd b
  have zb := at_zero hcd b
  have pc := at_pos hab c
  have nc := at_neg hab c
  have zc := at_zero hab c
  have pd := at_pos hab d
  have nd := at_neg hab d
  have zd := at_zero hab d
  have tri : k < m ∨ m < k ∨ m = k := by grind
  rcases tri with hlt | hlt | heq
  · have q1 := rat_mul_pos (by grind : 0 < m - k) (by grind : 0 < x - Xr a)
    have q2 := rat_mul_pos (by grind : 0 < m - k) (by grind : 0 < Xr b - x)
    have q3 := rat_mul_pos (by grind : 0 < m - k) (by grind : 0 < x - Xr c)
    have q4 := rat_mul_pos (by grind : 0 < m - k) (by grind : 0 < Xr d - x)
    have r1 := na.1 (by grind)
    have r2 := pb.1 (by grind)
    have r3 := pc.1 (by grind)
    have r4 := nd.1 (by grind)
    unfold apartB turnZ at ap
    rw [tsgn_neg r1, tsgn_pos r2, tsgn_pos r3, tsgn_neg r4] at ap
    simp at ap
  · have q1 := rat_mul_pos (by grind : 0 < k - m) (by grind : 0 < x - Xr a)
    have q2 := rat_mul_pos (by grind : 0 < k - m) (by grind : 0 < Xr b - x)
    have q3 := rat_mul_pos (by grind : 0 < k - m) (by grind : 0 < x - Xr c)
    have q4 := rat_mul_pos (by grind : 0 < k - m) (by grind : 0 < Xr d - x)
    have r1 := pa.1 (by grind)
    have r2 := nb.1 (by grind)
    have r3 := nc.1 (by grind)
    have r4 := pd.1 (by grind)
    unfold apartB turnZ at ap
    rw [tsgn_pos r1, tsgn_neg r2, tsgn_neg r3, tsgn_pos r4] at ap
    simp at ap
  · subst heq
    have r1 := za.1 (by grind)
    have r2 := zb.1 (by grind)
    have r3 := zc.1 (by grind)
    have r4 := zd.1 (by grind)
    have n1 := on_no ia ic id r1 o1
    have n2 := on_no ib ic id r2 o2
    have n3 := on_no ic ia ib r3 o3
    have n4 := on_no id ia ib r4 o4
    clear ea eb ec ed fa fb fc fd pa na za pb nb zb pc nc zc pd nd zd aa ab cc cd e r1 r2 r3 r4 o1 o2 o3 o4 ap hm hk
    have eac : Xr a = Xr c := by grind
    have ebd : Xr b = Xr d := by grind
    have hac : a = c := Xi_inj ia ic (Rat.intCast_inj.1 eac)
    have hbd : b = d := Xi_inj ib id (Rat.intCast_inj.1 ebd)
    subst hac hbd
    simp [sameB] at sm
end Go.Proofs.Ytlhmjhildlnokaa

/-
  Lines at their ends, lines out of one point. (The same laws stand in EulG: no text imports both.)
-/
namespace Go.Proofs.Ytlhmjhildlnokaa
set_option linter.unusedVariables false
set_option linter.unusedSimpArgs false
theorem Ln.cross {s t : Ln} {x y : Rat} (h1 : s.at x < t.at x) (h2 : t.at y < s.at y) : ∃ z, (x < z ∧ z < y ∨ y < z ∧ z < x) ∧ s.at z = t.at z := by
  generalize hd : t.at x - s.at x = d
  generalize he : s.at y - t.at y = e
  have d0 : 0 < d := by grind
  have e0 : 0 < e := by grind
  have de : 0 < d + e := by grind
  have de' : d + e ≠ 0 := by grind
  generalize hz : (x * e + y * d) / (d + e) = z
  have hz' : z * (d + e) = x * e + y * d := by rw [← hz]; exact Rat.div_mul_cancel de'
  have a1 := s.affine x z
  have a2 := t.affine x z
  have a3 := s.affine x y
  have a4 := t.affine x y
  have hxy : x ≠ y := by rintro rfl; grind
  refine ⟨z, ?_, ?_⟩
  · have hlt : x < y ∨ y < x := by grind
    rcases hlt with hlt | hlt
    · left
      have p1 := rat_mul_pos (by grind : 0 < y - x) e0
      have p2 := rat_mul_pos (by grind : 0 < y - x) d0
      have q1 : 0 < (z - x) * (d + e) := by grind
      have q2 : 0 < (y - z) * (d + e) := by grind
      have := rat_pos_of_mul q1 de
      have := rat_pos_of_mul q2 de
      grind
    · right
      have p1 := rat_mul_pos (by grind : 0 < x - y) e0
      have p2 := rat_mul_pos (by grind : 0 < x - y) d0
      have q1 : 0 < (x - z) * (d + e) := by grind
      have q2 : 0 < (z - y) * (d + e) := by grind
      have := rat_pos_of_mul q1 de
      have := rat_pos_of_mul q2 de
      grind
  · have e1 : (s.at z - t.at z) * (d + e) = 0 := by
      have b1 : s.at z - t.at z = (s.m - t.m) * (z - x) - d := by grind
      have b2 : (s.m - t.m) * (y - x) = d + e := by grind
      have b3 : (z - x) * (d + e) = (y - x) * d := by grind
      have : (s.at z - t.at z) * (d + e) = (s.m - t.m) * ((z - x) * (d + e)) - d * (d + e) := by rw [b1]; grind
      rw [this, b3]
      grind
    have := rat_zero_of_mul e1 de
    grind
/-- A place of the closed span. -/
def Ln.near (s : Ln) (x : Rat) : Prop := s.x1 ≤ x ∧ x ≤ s.x2
/-- The order within, and where they end. -/
theorem Ln.Sep.ends {s t : Ln} (h : s.Sep t) {x y : Rat} (sx : s.spans x) (tx : t.spans x) (sy : s.near y) (ty : t.near y) (hne : s.at y ≠ t.at y) : s.at x < t.at x ↔ s.at y < t.at y := by
  have no : ∀ z, (x < z ∧ z < y ∨ y < z ∧ z < x) → s.at z ≠ t.at z := by
    intro z hz
    unfold Ln.spans at sx tx
    unfold Ln.near at sy ty
    exact h z (by unfold Ln.spans; grind) (by unfold Ln.spans; grind)
  have hx := h x sx tx
  constructor
  · intro h1
    by_cases h2 : s.at y < t.at y
    · exact h2
    · obtain ⟨z, hz, e⟩ := Ln.cross h1 (by grind : t.at y < s.at y)
      exact absurd e (no z hz)
  · intro h1
    by_cases h2 : s.at x < t.at x
    · exact h2
    · obtain ⟨z, hz, e⟩ := Ln.cross h1 (by grind : t.at x < s.at x)
      exact absurd e (no z (by grind))
theorem inP_b {p : Pt} (h : inB p = true) : InP p := of_decide_eq_true h

theorem Xr_lt {a b : Pt} : Xr a < Xr b ↔ Xi a < Xi b := Rat.intCast_lt_intCast

theorem Ln.fan_r {s t : Ln} {x0 x y : Rat} (h : s.at x0 = t.at x0) (hx : x0 < x) (hy : x0 < y) : s.at x < t.at x ↔ s.at y < t.at y := by
  have a1 := s.affine x0 x
  have a2 := t.affine x0 x
  have a3 := s.affine x0 y
  have a4 := t.affine x0 y
  have key : ∀ z, x0 < z → (s.at z < t.at z ↔ s.m < t.m) := by
    intro z hz
    have a1 := s.affine x0 z
    have a2 := t.affine x0 z
    have hp : 0 < z - x0 := by grind
    constructor
    · intro h1
      have : 0 < (t.m - s.m) * (z - x0) := by grind
      have := rat_pos_of_mul this hp
      grind
    · intro h1
      have := rat_mul_pos (by grind : 0 < t.m - s.m) hp
      grind
  rw [key x hx, key y hy]

theorem Ln.fan_l {s t : Ln} {x0 x y : Rat} (h : s.at x0 = t.at x0) (hx : x < x0) (hy : y < x0) : s.at x < t.at x ↔ s.at y < t.at y := by
  have key : ∀ z, z < x0 → (s.at z < t.at z ↔ t.m < s.m) := by
    intro z hz
    have a1 := s.affine x0 z
    have a2 := t.affine x0 z
    have hp : 0 < x0 - z := by grind
    constructor
    · intro h1
      have : 0 < (s.m - t.m) * (x0 - z) := by grind
      have := rat_pos_of_mul this hp
      grind
    · intro h1
      have := rat_mul_pos (by grind : 0 < s.m - t.m) hp
      grind
  rw [key x hx, key y hy]

end Go.Proofs.Ytlhmjhildlnokaa

/-
  Lines that do not cross, trapezes between them: two with a point in common are one.
-/
namespace Go.Proofs.Ytlhmjhildlnokaa
set_option linter.unusedVariables false
set_option linter.unusedSimpArgs false
open Go.RowKit Go.Sort Go.Shelf
/-! ### Near a place -/
def Nr (a : Rat) (P : Rat → Prop) : Prop := ∃ d : Rat, 0 < d ∧ ∀ x, a - d < x → x < a + d → P x
theorem Nr.and {a : Rat} {P Q : Rat → Prop} (h : Nr a P) (g : Nr a Q) : Nr a fun x => P x ∧ Q x := by
  obtain ⟨d, d0, hd⟩ := h
  obtain ⟨e, e0, he⟩ := g
  by_cases hde : d ≤ e
  · exact ⟨d, d0, fun x h1 h2 => ⟨hd x h1 h2, he x (by grind) (by grind)⟩⟩
  · exact ⟨e, e0, fun x h1 h2 => ⟨hd x (by grind) (by grind), he x h1 h2⟩⟩
theorem Nr.mono {a : Rat} {P Q : Rat → Prop} (h : Nr a P) (g : ∀ x, P x → Q x) : Nr a Q := by
  obtain ⟨d, d0, hd⟩ := h
  exact ⟨d, d0, fun x h1 h2 => g x (hd x h1 h2)⟩
theorem Nr.all {a : Rat} {P : Rat → Prop} (h : ∀ x, P x) : Nr a P := ⟨1, by decide, fun x _ _ => h x⟩
theorem Nr.gt {a c : Rat} (h : c < a) : Nr a fun x => c < x := ⟨a - c, by grind, fun x h1 h2 => by grind⟩
theorem Nr.lt {a c : Rat} (h : a < c) : Nr a fun x => x < c := ⟨c - a, by grind, fun x h1 h2 => by grind⟩
theorem Nr.imp {a : Rat} {p : Prop} {P : Rat → Prop} (h : p → Nr a P) : Nr a fun x => p → P x := by
  by_cases hp : p
  · exact (h hp).mono fun x hx _ => hx
  · exact Nr.all fun x h => absurd h hp
theorem Nr.lin {a v m : Rat} (hv : 0 < v) : Nr a fun x => 0 < v + m * (x - a) := by
  have key : ∀ M : Rat, 0 ≤ M → ∃ d : Rat, 0 < d ∧ M * d < v := by
    intro M hM
    have h1 : (0 : Rat) < M + 1 := by grind
    have h2 : (0 : Rat) < v / (M + 1) := by
      rw [Rat.div_def]; exact Rat.mul_pos hv (Rat.inv_pos.2 h1)
    refine ⟨v / (M + 1), h2, ?_⟩
    have h3 : v / (M + 1) * (M + 1) = v := Rat.div_mul_cancel (by grind)
    grind
  by_cases hm : 0 ≤ m
  · obtain ⟨d, d0, hd⟩ := key m hm
    refine ⟨d, d0, fun x h1 h2 => ?_⟩
    have := Rat.mul_nonneg hm (by grind : 0 ≤ x - a + d)
    grind
  · obtain ⟨d, d0, hd⟩ := key (-m) (by grind)
    refine ⟨d, d0, fun x h1 h2 => ?_⟩
    have := Rat.mul_nonneg (by grind : 0 ≤ -m) (by grind : 0 ≤ a + d - x)
    grind
theorem Nr.below {a : Rat} {s t : Ln} (h : s.at a < t.at a) : Nr a fun x => s.at x < t.at x := by
  refine (Nr.lin (a := a) (m := t.m - s.m) (by grind : 0 < t.at a - s.at a)).mono fun x hx => ?_
  have h1 := s.affine a x
  have h2 := t.affine a x
  grind
theorem Nr.avoid {a : Rat} : ∀ (E : List Rat), Nr a fun x => ∀ e ∈ E, e ≠ a → x ≠ e
  | [] => Nr.all fun x e he => by simp at he
  | e :: E => by
    have h : Nr a fun x => e ≠ a → x ≠ e := Nr.imp fun he => by
      rcases (by grind : e < a ∨ a < e) with q | q
      · exact (Nr.gt q).mono fun x hx => by grind
      · exact (Nr.lt q).mono fun x hx => by grind
    refine (h.and (Nr.avoid E)).mono fun x hx => ?_
    intro f hf
    rcases List.mem_cons.1 hf with rfl | hf
    · exact hx.1
    · exact hx.2 f hf
theorem Nr.right {a : Rat} {P : Rat → Prop} (h : Nr a P) : ∃ x, a < x ∧ P x := by
  obtain ⟨d, d0, hd⟩ := h
  exact ⟨a + d / 2, by grind, hd _ (by grind) (by grind)⟩
theorem Nr.left {a : Rat} {P : Rat → Prop} (h : Nr a P) : ∃ x, x < a ∧ P x := by
  obtain ⟨d, d0, hd⟩ := h
  exact ⟨a - d / 2, by grind, hd _ (by grind) (by grind)⟩
/-- A place between two, but for some. -/
theorem between {a b : Rat} (h : a < b) (E : List Rat) : ∃ x, a < x ∧ x < b ∧ x ∉ E := by
  obtain ⟨x, h1, h2, h3⟩ := ((Nr.lt h).and (Nr.avoid (a := a) E)).right
  exact ⟨x, h1, h2, fun hx => h3 x hx (by grind) rfl⟩

/-! ### Lines that don't cross, and trapezes between them -/
def lnS (s : Sg) : Ln := lnOf s.a s.b
structure SOk (S : List (Int × Sg)) : Prop where
  ids : ∀ q ∈ S, q.1 ≠ 0
  keys : (S.map (·.1)).Nodup
  rng : ∀ q ∈ S, InP q.2.a ∧ InP q.2.b ∧ Xi q.2.a < Xi q.2.b
  sep : ∀ q ∈ S, ∀ r ∈ S, q ≠ r → (lnS q.2).Sep (lnS r.2)
  off : ∀ q ∈ S, ∀ r ∈ S, ∀ e, (e = r.2.a ∨ e = r.2.b) → (lnS q.2).spans (Xr e) → (lnS q.2).at (Xr e) ≠ Yr e
def EndS (S : List (Int × Sg)) (e : Pt) : Prop := ∃ q ∈ S, e = q.2.a ∨ e = q.2.b
def InX (t : Tz) (x : Rat) : Prop := (t.hl = true → Xr t.l < x) ∧ (t.hr = true → x < Xr t.r)
def botL (S : List (Int × Sg)) (t : Tz) : Ln := lnS (sgOf S t.bot)
def topL (S : List (Int × Sg)) (t : Tz) : Ln := lnS (sgOf S t.top)
structure InT (S : List (Int × Sg)) (t : Tz) (x y : Rat) : Prop where
  ix : InX t x
  lo : t.bot ≠ 0 → (botL S t).at x < y
  hi : t.top ≠ 0 → y < (topL S t).at x
structure Val (S : List (Int × Sg)) (t : Tz) : Prop where
  bot : t.bot ≠ 0 → (t.bot, sgOf S t.bot) ∈ S ∧ t.hl = true ∧ t.hr = true ∧ Xi (sgOf S t.bot).a ≤ Xi t.l ∧ Xi t.r ≤ Xi (sgOf S t.bot).b
  top : t.top ≠ 0 → (t.top, sgOf S t.top) ∈ S ∧ t.hl = true ∧ t.hr = true ∧ Xi (sgOf S t.top).a ≤ Xi t.l ∧ Xi t.r ≤ Xi (sgOf S t.top).b
  lr : t.hl = true → t.hr = true → Xi t.l < Xi t.r
  bt : t.bot ≠ 0 → t.top ≠ 0 → ∀ x, InX t x → (botL S t).at x < (topL S t).at x
  wl : t.hl = true → EndS S t.l ∧ (t.bot ≠ 0 → (botL S t).at (Xr t.l) ≤ Yr t.l) ∧ (t.top ≠ 0 → Yr t.l ≤ (topL S t).at (Xr t.l))
  wr : t.hr = true → EndS S t.r ∧ (t.bot ≠ 0 → (botL S t).at (Xr t.r) ≤ Yr t.r) ∧ (t.top ≠ 0 → Yr t.r ≤ (topL S t).at (Xr t.r))
  free : ∀ q ∈ S, ∀ x, (lnS q.2).spans x → ¬ InT S t x ((lnS q.2).at x)
  zl : t.hl = false → t.l = ⟨0, 0⟩
  zr : t.hr = false → t.r = ⟨0, 0⟩
variable {S : List (Int × Sg)} {t t' : Tz}
theorem Xr_le {a b : Pt} : Xr a ≤ Xr b ↔ Xi a ≤ Xi b := Rat.intCast_le_intCast
theorem Xr_eq {a b : Pt} : Xr a = Xr b ↔ Xi a = Xi b := Rat.intCast_inj
theorem SOk.endIn (O : SOk S) {e : Pt} (h : EndS S e) : InP e := by
  obtain ⟨q, hq, rfl | rfl⟩ := h
  · exact (O.rng q hq).1
  · exact (O.rng q hq).2.1
theorem SOk.endEq (O : SOk S) {e f : Pt} (h : EndS S e) (g : EndS S f) (hx : Xr e = Xr f) : e = f := Xi_inj (O.endIn h) (O.endIn g) (Xr_eq.1 hx)
theorem Val.botSp (V : Val S t) (h : t.bot ≠ 0) {x : Rat} (hx : InX t x) : (botL S t).spans x := by
  obtain ⟨_, h1, h2, h3, h4⟩ := V.bot h
  have a1 := hx.1 h1
  have a2 := hx.2 h2
  have b1 := Xr_le.2 h3
  have b2 := Xr_le.2 h4
  exact ⟨show Xr (sgOf S t.bot).a < x by grind, show x < Xr (sgOf S t.bot).b by grind⟩
theorem Val.topSp (V : Val S t) (h : t.top ≠ 0) {x : Rat} (hx : InX t x) : (topL S t).spans x := by
  obtain ⟨_, h1, h2, h3, h4⟩ := V.top h
  have a1 := hx.1 h1
  have a2 := hx.2 h2
  have b1 := Xr_le.2 h3
  have b2 := Xr_le.2 h4
  exact ⟨show Xr (sgOf S t.top).a < x by grind, show x < Xr (sgOf S t.top).b by grind⟩
theorem SOk.ln1 (O : SOk S) {q : Int × Sg} (hq : q ∈ S) : Xr q.2.a < Xr q.2.b ∧ (lnS q.2).at (Xr q.2.a) = Yr q.2.a ∧ (lnS q.2).at (Xr q.2.b) = Yr q.2.b := by
  have h := Xr_lt.2 (O.rng q hq).2.2
  exact ⟨h, (lnOf q.2.a q.2.b).at_1, (lnOf q.2.a q.2.b).at_2 h⟩
/-- No end stands within a trapeze. -/
theorem Val.noend (O : SOk S) (V : Val S t) {e : Pt} (he : EndS S e) (hx : InX t (Xr e)) (h1 : t.bot ≠ 0 → (botL S t).at (Xr e) ≤ Yr e) (h2 : t.top ≠ 0 → Yr e ≤ (topL S t).at (Xr e)) : False := by
  obtain ⟨q, hq, hqe⟩ := he
  have s1 : t.bot ≠ 0 → (botL S t).at (Xr e) < Yr e := fun h => by
    have := O.off _ (V.bot h).1 q hq e hqe (V.botSp h hx)
    have g := h1 h
    unfold botL at g ⊢
    simp only at this
    grind
  have s2 : t.top ≠ 0 → Yr e < (topL S t).at (Xr e) := fun h => by
    have := O.off _ (V.top h).1 q hq e hqe (V.topSp h hx)
    have g := h2 h
    unfold topL at g ⊢
    simp only at this
    grind
  obtain ⟨l1, l2, l3⟩ := O.ln1 hq
  have ye : (lnS q.2).at (Xr e) = Yr e := by rcases hqe with rfl | rfl; exact l2; exact l3
  have n1 : Nr (Xr e) fun x => InX t x := (Nr.imp fun h => Nr.gt (hx.1 h)).and (Nr.imp fun h => Nr.lt (hx.2 h))
  have n2 : Nr (Xr e) fun x => t.bot ≠ 0 → (botL S t).at x < (lnS q.2).at x := Nr.imp fun h => Nr.below (by rw [ye]; exact s1 h)
  have n3 : Nr (Xr e) fun x => t.top ≠ 0 → (lnS q.2).at x < (topL S t).at x := Nr.imp fun h => Nr.below (by rw [ye]; exact s2 h)
  rcases hqe with rfl | rfl
  · obtain ⟨x, g1, ⟨g2, g3, g4⟩, g5⟩ := ((n1.and (n2.and n3)).and (Nr.lt l1)).right
    exact V.free q hq x ⟨g1, g5⟩ ⟨g2, g3, g4⟩
  · obtain ⟨x, g1, ⟨g2, g3, g4⟩, g5⟩ := ((n1.and (n2.and n3)).and (Nr.gt l1)).left
    exact V.free q hq x ⟨g5, g1⟩ ⟨g2, g3, g4⟩
/-- Two trapezes with a point in common are one. -/
theorem val_bot (O : SOk S) (V : Val S t) (V' : Val S t') {x y : Rat} (h : InT S t x y) (h' : InT S t' x y) : t.bot ≠ 0 → t'.bot = t.bot := by
  intro hb
  have sp := V.botSp hb h.ix
  have hm := (V.bot hb).1
  have lo := h.lo hb
  have nf := V'.free _ hm x sp
  have hi' : t'.top ≠ 0 → (botL S t).at x < (topL S t').at x := fun g => by have := h'.hi g; grind
  by_cases hb' : t'.bot = 0
  · exact absurd ⟨h'.ix, fun g => absurd hb' g, hi'⟩ nf
  · have sp' := V'.botSp hb' h'.ix
    have hm' := (V'.bot hb').1
    have lo' := h'.lo hb'
    have nf' := V.free _ hm' x sp'
    have hi : t.top ≠ 0 → (botL S t').at x < (topL S t).at x := fun g => by have := h.hi g; grind
    have q1 : ¬ (botL S t').at x < (botL S t).at x := fun q => nf ⟨h'.ix, fun _ => q, hi'⟩
    have q2 : ¬ (botL S t).at x < (botL S t').at x := fun q => nf' ⟨h.ix, fun _ => q, hi⟩
    by_cases e : (t.bot, sgOf S t.bot) = (t'.bot, sgOf S t'.bot)
    · injection e with e; exact e.symm
    · have := O.sep _ hm _ hm' e x sp sp'
      unfold botL at q1 q2
      simp only at this
      grind
theorem val_top (O : SOk S) (V : Val S t) (V' : Val S t') {x y : Rat} (h : InT S t x y) (h' : InT S t' x y) : t.top ≠ 0 → t'.top = t.top := by
  intro hb
  have sp := V.topSp hb h.ix
  have hm := (V.top hb).1
  have lo := h.hi hb
  have nf := V'.free _ hm x sp
  have hi' : t'.bot ≠ 0 → (botL S t').at x < (topL S t).at x := fun g => by have := h'.lo g; grind
  by_cases hb' : t'.top = 0
  · exact absurd ⟨h'.ix, hi', fun g => absurd hb' g⟩ nf
  · have sp' := V'.topSp hb' h'.ix
    have hm' := (V'.top hb').1
    have lo' := h'.hi hb'
    have nf' := V.free _ hm' x sp'
    have hi : t.bot ≠ 0 → (botL S t).at x < (topL S t').at x := fun g => by have := h.lo g; grind
    have q1 : ¬ (topL S t).at x < (topL S t').at x := fun q => nf ⟨h'.ix, hi', fun _ => q⟩
    have q2 : ¬ (topL S t').at x < (topL S t).at x := fun q => nf' ⟨h.ix, hi, fun _ => q⟩
    by_cases e : (t.top, sgOf S t.top) = (t'.top, sgOf S t'.top)
    · injection e with e; exact e.symm
    · have := O.sep _ hm _ hm' e x sp sp'
      unfold topL at q1 q2
      simp only at this
      grind
theorem val_uniq (O : SOk S) (V : Val S t) (V' : Val S t') {x y : Rat} (h : InT S t x y) (h' : InT S t' x y) : t = t' := by
  have eb : t.bot = t'.bot := by
    by_cases g : t.bot = 0
    · by_cases g' : t'.bot = 0
      · rw [g, g']
      · exact val_bot O V' V h' h g'
    · exact (val_bot O V V' h h' g).symm
  have et : t.top = t'.top := by
    by_cases g : t.top = 0
    · by_cases g' : t'.top = 0
      · rw [g, g']
      · exact val_top O V' V h' h g'
    · exact (val_top O V V' h h' g).symm
  have L : ∀ {t t' : Tz}, Val S t → Val S t' → InT S t x y → InT S t' x y → t.bot = t'.bot → t.top = t'.top → t.hl = true → t'.hl = true ∧ Xr t.l ≤ Xr t'.l := by
    intro t t' V V' h h' eb et hl
    have wl := V.wl hl
    have no : ¬ (t'.hl = true → Xr t'.l < Xr t.l) := fun g => by
      refine V'.noend O wl.1 ⟨g, fun hr => ?_⟩ ?_ ?_
      · have := h.ix.1 hl
        have := h'.ix.2 hr
        grind
      · unfold botL; rw [← eb]; exact wl.2.1
      · unfold topL; rw [← et]; exact wl.2.2
    constructor
    · cases hh : t'.hl
      · exact absurd (fun g => absurd (hh.symm.trans g) (by simp)) no
      · rfl
    · grind
  have R : ∀ {t t' : Tz}, Val S t → Val S t' → InT S t x y → InT S t' x y → t.bot = t'.bot → t.top = t'.top → t.hr = true → t'.hr = true ∧ Xr t'.r ≤ Xr t.r := by
    intro t t' V V' h h' eb et hl
    have wl := V.wr hl
    have no : ¬ (t'.hr = true → Xr t.r < Xr t'.r) := fun g => by
      refine V'.noend O wl.1 ⟨fun hr => ?_, g⟩ ?_ ?_
      · have := h.ix.2 hl
        have := h'.ix.1 hr
        grind
      · unfold botL; rw [← eb]; exact wl.2.1
      · unfold topL; rw [← et]; exact wl.2.2
    constructor
    · cases hh : t'.hr
      · exact absurd (fun g => absurd (hh.symm.trans g) (by simp)) no
      · rfl
    · grind
  have ehl : t.hl = t'.hl := by
    cases h1 : t.hl <;> cases h2 : t'.hl
    · rfl
    · have := (L V' V h' h eb.symm et.symm h2).1; rw [h1] at this; cases this
    · have := (L V V' h h' eb et h1).1; rw [h2] at this; cases this
    · rfl
  have ehr : t.hr = t'.hr := by
    cases h1 : t.hr <;> cases h2 : t'.hr
    · rfl
    · have := (R V' V h' h eb.symm et.symm h2).1; rw [h1] at this; cases this
    · have := (R V V' h h' eb et h1).1; rw [h2] at this; cases this
    · rfl
  have el : t.l = t'.l := by
    cases h1 : t.hl
    · rw [V.zl h1, V'.zl (ehl ▸ h1)]
    · have h2 : t'.hl = true := ehl ▸ h1
      have a1 := (L V V' h h' eb et h1).2
      have a2 := (L V' V h' h eb.symm et.symm h2).2
      exact O.endEq (V.wl h1).1 (V'.wl h2).1 (by grind)
  have er : t.r = t'.r := by
    cases h1 : t.hr
    · rw [V.zr h1, V'.zr (ehr ▸ h1)]
    · have h2 : t'.hr = true := ehr ▸ h1
      have a1 := (R V V' h h' eb et h1).2
      have a2 := (R V' V h' h eb.symm et.symm h2).2
      exact O.endEq (V.wr h1).1 (V'.wr h2).1 (by grind)
  obtain ⟨_, _, _, _, _, _⟩ := t
  obtain ⟨_, _, _, _, _, _⟩ := t'
  simp only at eb et ehl ehr el er
  simp only [eb, et, ehl, ehr, el, er]
/-- A trapeze has a point. -/
theorem Val.someX (V : Val S t) (E : List Rat) : ∃ x, InX t x ∧ x ∉ E := by
  cases h1 : t.hl <;> cases h2 : t.hr
  · obtain ⟨x, _, _, g⟩ := between (show (0 : Rat) < 1 by decide) E
    exact ⟨x, ⟨fun h => absurd (h1.symm.trans h) (by simp), fun h => absurd (h2.symm.trans h) (by simp)⟩, g⟩
  · obtain ⟨x, _, g1, g⟩ := between (show Xr t.r - 1 < Xr t.r by grind) E
    exact ⟨x, ⟨fun h => absurd (h1.symm.trans h) (by simp), fun h => g1⟩, g⟩
  · obtain ⟨x, g1, _, g⟩ := between (show Xr t.l < Xr t.l + 1 by grind) E
    exact ⟨x, ⟨fun h => g1, fun h => absurd (h2.symm.trans h) (by simp)⟩, g⟩
  · obtain ⟨x, g1, g2, g⟩ := between (Xr_lt.2 (V.lr h1 h2)) E
    exact ⟨x, ⟨fun h => g1, fun h => g2⟩, g⟩
theorem Val.someY (V : Val S t) {x : Rat} (hx : InX t x) : ∃ y, InT S t x y := by
  by_cases h1 : t.bot = 0 <;> by_cases h2 : t.top = 0
  · exact ⟨0, hx, fun h => absurd h1 h, fun h => absurd h2 h⟩
  · exact ⟨(topL S t).at x - 1, hx, fun h => absurd h1 h, fun h => by grind⟩
  · exact ⟨(botL S t).at x + 1, hx, fun h => by grind, fun h => absurd h2 h⟩
  · have := V.bt h1 h2 x hx
    exact ⟨((botL S t).at x + (topL S t).at x) / 2, hx, fun h => by grind, fun h => by grind⟩
end Go.Proofs.Ytlhmjhildlnokaa

/-
  Which line is above; which trapezes a line goes through.
-/
namespace Go.Proofs.Ytlhmjhildlnokaa
set_option linter.unusedVariables false
set_option linter.unusedSimpArgs false
open Go.RowKit Go.Sort Go.Shelf
variable {S : List (Int × Sg)} {t t' : Tz}
/-! ### Which line is above; which trapezes a line goes through -/
theorem inB_t {a : Pt} (h : InP a) : inB a = true := decide_eq_true h
theorem less_X {a b : Pt} (ha : InP a) (hb : InP b) : lessB a b = true ↔ Xr a < Xr b := by
  unfold lessB; rw [decide_eq_true_eq]; exact less_Xr ha hb
theorem turn_sign {a b c : Pt} (ia : InP a) (ib : InP b) (ic : InP c) (hab : Xr a < Xr b) :
    (0 < turnB a b c ↔ (lnOf a b).at (Xr c) < Yr c) ∧ (turnB a b c < 0 ↔ Yr c < (lnOf a b).at (Xr c)) ∧ (turnB a b c = 0 ↔ Yr c = (lnOf a b).at (Xr c)) := by
  have e : turnB a b c = sgnZ (crossZ a b c) := by unfold turnB; rw [inB_t ia, inB_t ib, inB_t ic]; rfl
  rw [e, at_pos hab, at_neg hab, at_zero hab]
  rcases sg_cases (crossZ a b c) with ⟨h, k⟩ | ⟨h, k⟩ | ⟨h, k⟩ <;> rw [k] <;> omega
theorem orZ_first {a : Int} {l : List Int} (h : a ≠ 0) : orZ (a :: l) = a := by unfold orZ; rw [if_neg h]
theorem orZ_next {l : List Int} : orZ (0 :: l) = orZ l := by rw [orZ, if_pos rfl]
theorem side_sign (O : SOk S) {q r : Int × Sg} (hq : q ∈ S) (hr : r ∈ S) (hne : q ≠ r) {x : Rat} (h1 : (lnS q.2).spans x) (h2 : (lnS r.2).spans x) :
    (0 < sideZ q.2 r.2 ↔ (lnS q.2).at x < (lnS r.2).at x) ∧ (sideZ q.2 r.2 < 0 ↔ (lnS r.2).at x < (lnS q.2).at x) := by
  have sep := O.sep q hq r hr hne
  obtain ⟨qa, qb, _⟩ := O.rng q hq
  obtain ⟨ra, rb, _⟩ := O.rng r hr
  obtain ⟨ql, q1, q2⟩ := O.ln1 hq
  obtain ⟨rl, r1, r2⟩ := O.ln1 hr
  have off1 := O.off q hq r hr r.2.a (.inl rfl)
  have off2 := O.off r hr q hq q.2.a (.inl rfl)
  have hx := sep x h1 h2
  have a1 : Xr q.2.a < x := h1.1
  have a2 : x < Xr q.2.b := h1.2
  have b1 : Xr r.2.a < x := h2.1
  have b2 : x < Xr r.2.b := h2.2
  unfold sideZ
  by_cases hl : Xr q.2.a < Xr r.2.a
  · rw [if_pos ((less_X qa ra).2 hl)]
    have sp : (lnS q.2).spans (Xr r.2.a) := ⟨hl, show Xr r.2.a < Xr q.2.b by grind⟩
    obtain ⟨g1, g2, g3⟩ := turn_sign (c := r.2.a) qa qb ra ql
    have ne := off1 sp
    have hne0 : turnB q.2.a q.2.b r.2.a ≠ 0 := fun e => by
      have := g3.1 e
      unfold lnS at ne; grind
    rw [orZ_first hne0, g1, g2]
    have k := sep.ends (x := x) (y := Xr r.2.a) h1 h2 ⟨Rat.le_of_lt sp.1, Rat.le_of_lt sp.2⟩ ⟨Rat.le_refl, show Xr r.2.a ≤ Xr r.2.b by grind⟩ (by rw [r1]; exact ne)
    rw [r1] at k
    unfold lnS at k hx ne ⊢
    constructor
    · exact k.symm
    · have g : (lnOf r.2.a r.2.b).at x < (lnOf q.2.a q.2.b).at x ↔ ¬ (lnOf q.2.a q.2.b).at x < (lnOf r.2.a r.2.b).at x := by grind
      rw [g, k]
      grind
  · have hl' : ¬ lessB q.2.a r.2.a = true := fun h => hl ((less_X qa ra).1 h)
    rw [if_neg hl']
    obtain ⟨g1, g2, g3⟩ := turn_sign (c := q.2.a) ra rb qa rl
    by_cases he : Xr q.2.a = Xr r.2.a
    · have e := Xi_inj qa ra (Xr_eq.1 he)
      have z : turnB r.2.a r.2.b q.2.a = 0 := g3.2 (by
        have : Yr q.2.a = (lnOf r.2.a r.2.b).at (Xr r.2.a) := by rw [e]; exact r1.symm
        rw [he]; exact this)
      rw [z, Int.neg_zero, orZ_next]
      obtain ⟨k1, k2, k3⟩ := turn_sign (c := q.2.b) ra rb qb rl
      have e0 : (lnS q.2).at (Xr q.2.a) = (lnS r.2).at (Xr q.2.a) := by rw [q1, he, r1, e]
      have f1 := Ln.fan_r (x := x) (y := Xr q.2.b) e0 a1 (by grind)
      have f2 := Ln.fan_r (x := x) (y := Xr q.2.b) e0.symm a1 (by grind)
      rw [q2] at f1 f2
      unfold lnS at f1 f2 hx ⊢
      have hne0 : - turnB r.2.a r.2.b q.2.b ≠ 0 := fun e => by
        have := k3.1 (by omega)
        grind
      rw [orZ_first hne0]
      have n1 : 0 < - turnB r.2.a r.2.b q.2.b ↔ turnB r.2.a r.2.b q.2.b < 0 := by omega
      have n2 : - turnB r.2.a r.2.b q.2.b < 0 ↔ 0 < turnB r.2.a r.2.b q.2.b := by omega
      rw [n1, n2, k1, k2, f1, f2]
      exact ⟨Iff.rfl, Iff.rfl⟩
    · have hlt : Xr r.2.a < Xr q.2.a := by grind
      have sp : (lnS r.2).spans (Xr q.2.a) := ⟨hlt, show Xr q.2.a < Xr r.2.b by grind⟩
      have ne := off2 sp
      have hne0 : - turnB r.2.a r.2.b q.2.a ≠ 0 := fun e => by
        have := g3.1 (by omega)
        unfold lnS at ne; grind
      rw [orZ_first hne0]
      have k := sep.ends (x := x) (y := Xr q.2.a) h1 h2 ⟨Rat.le_refl, show Xr q.2.a ≤ Xr q.2.b by grind⟩ ⟨Rat.le_of_lt sp.1, Rat.le_of_lt sp.2⟩ (by rw [q1]; exact ne.symm)
      rw [q1] at k
      have n1 : 0 < - turnB r.2.a r.2.b q.2.a ↔ turnB r.2.a r.2.b q.2.a < 0 := by omega
      have n2 : - turnB r.2.a r.2.b q.2.a < 0 ↔ 0 < turnB r.2.a r.2.b q.2.a := by omega
      rw [n1, n2, g1, g2]
      unfold lnS at k hx ne ⊢
      constructor
      · exact k.symm
      · have g : (lnOf r.2.a r.2.b).at x < (lnOf q.2.a q.2.b).at x ↔ ¬ (lnOf q.2.a q.2.b).at x < (lnOf r.2.a r.2.b).at x := by grind
        rw [g, k]
        grind
/-! ### A line more -/
/-- What the lines said of each other, with one more. -/
structure Nw (S : List (Int × Sg)) (id : Int) (s : Sg) : Prop where
  ok : SOk ((id, s) :: S)
theorem SOk.tail {S : List (Int × Sg)} {id : Int} {s : Sg} (O : SOk ((id, s) :: S)) : SOk S where
  ids q hq := O.ids q (by simp [hq])
  keys := (List.nodup_cons.1 O.keys).2
  rng q hq := O.rng q (by simp [hq])
  sep q hq r hr := O.sep q (by simp [hq]) r (by simp [hr])
  off q hq r hr := O.off q (by simp [hq]) r (by simp [hr])
variable {id : Int} {s : Sg}
theorem SOk.fresh (O : SOk ((id, s) :: S)) {q : Int × Sg} (hq : q ∈ S) : q.1 ≠ id := fun e => (List.nodup_cons.1 O.keys).1 (List.mem_map.2 ⟨q, hq, e⟩)
theorem sgOf_other (h : t.bot ≠ id) : True := trivial
theorem getA_cons {i : Int} (h : i ≠ id) : getA ((id, s) :: S) i = getA S i := by
  unfold getA
  rw [firstI, if_neg h]
  have : ∀ (l : List (Int × Sg)) (k : Nat), (firstI i l (k + 1)).map (·.2) = (firstI i l k).map (·.2) := by
    intro l
    induction l with
    | nil => intro k; rfl
    | cons a l ih =>
      intro k
      obtain ⟨a1, a2⟩ := a
      unfold firstI
      split
      · rfl
      · exact ih (k + 1)
  exact this S 0
theorem getA_head : getA ((id, s) :: S) id = some s := by unfold getA; rw [firstI, if_pos rfl]; rfl
theorem sgOf_cons {i : Int} (h : i ≠ id) : sgOf ((id, s) :: S) i = sgOf S i := by unfold sgOf; rw [getA_cons h]
theorem sgOf_head : sgOf ((id, s) :: S) id = s := by unfold sgOf; rw [getA_head]; rfl
theorem sgOf_mem (O : SOk S) {q : Int × Sg} (hq : q ∈ S) : sgOf S q.1 = q.2 := by
  unfold sgOf; rw [(getA_some O.keys).2 hq]; rfl
/-- Lines of the old trapezes aren't the new one. -/
theorem Val.notId (O : SOk ((id, s) :: S)) (V : Val S t) : t.bot ≠ id ∧ t.top ≠ id := by
  have h0 := O.ids (id, s) (by simp)
  simp only at h0
  constructor
  · intro e
    have := V.bot (by rw [e]; exact h0)
    exact O.fresh this.1 e
  · intro e
    have := V.top (by rw [e]; exact h0)
    exact O.fresh this.1 e
def Pass (S : List (Int × Sg)) (s : Sg) (t : Tz) : Prop := ∃ x, (lnS s).spans x ∧ InT S t x ((lnS s).at x)
/-- A line that goes through a trapeze goes through all of it. -/
theorem Pass.all (O : SOk ((id, s) :: S)) (V : Val S t) (h : Pass S s t) {x : Rat} (hx : (lnS s).spans x) (ix : InX t x) : InT S t x ((lnS s).at x) := by
  obtain ⟨x0, h1, h2⟩ := h
  refine ⟨ix, fun hb => ?_, fun hb => ?_⟩
  · have hm := (V.bot hb).1
    have sep := O.sep (t.bot, sgOf S t.bot) (by simp [hm]) (id, s) (by simp) (fun e => O.fresh hm (by rw [e]))
    exact sep.keeps (V.botSp hb h2.ix) h1 (V.botSp hb ix) hx (h2.lo hb)
  · have hm := (V.top hb).1
    have sep := O.sep (id, s) (by simp) (t.top, sgOf S t.top) (by simp [hm]) (fun e => O.fresh hm (by rw [← e]))
    exact sep.keeps h1 (V.topSp hb h2.ix) hx (V.topSp hb ix) (h2.hi hb)
/-- The places that a trapeze and a line have in common. -/
theorem common (O : SOk ((id, s) :: S)) (V : Val S t) (h1 : t.hl = true → Xr t.l < Xr s.b) (h2 : t.hr = true → Xr s.a < Xr t.r) (E : List Rat) : ∃ x, (lnS s).spans x ∧ InX t x ∧ x ∉ E := by
  have hs := (O.ln1 (q := (id, s)) (by simp)).1
  simp only at hs
  -- from the greater left end to the lesser right one
  obtain ⟨lo, l1, l2, l3⟩ : ∃ lo, Xr s.a ≤ lo ∧ (t.hl = true → Xr t.l ≤ lo) ∧ (lo = Xr s.a ∨ t.hl = true ∧ lo = Xr t.l) := by
    cases hl : t.hl
    · exact ⟨Xr s.a, Rat.le_refl, fun h => (by cases h), .inl rfl⟩
    · by_cases g : Xr t.l ≤ Xr s.a
      · exact ⟨Xr s.a, Rat.le_refl, fun _ => g, .inl rfl⟩
      · exact ⟨Xr t.l, by grind, fun _ => Rat.le_refl, .inr ⟨rfl, rfl⟩⟩
  obtain ⟨hi, r1, r2, r3⟩ : ∃ hi, hi ≤ Xr s.b ∧ (t.hr = true → hi ≤ Xr t.r) ∧ (hi = Xr s.b ∨ t.hr = true ∧ hi = Xr t.r) := by
    cases hr : t.hr
    · exact ⟨Xr s.b, Rat.le_refl, fun h => (by cases h), .inl rfl⟩
    · by_cases g : Xr s.b ≤ Xr t.r
      · exact ⟨Xr s.b, Rat.le_refl, fun _ => g, .inl rfl⟩
      · exact ⟨Xr t.r, by grind, fun _ => Rat.le_refl, .inr ⟨rfl, rfl⟩⟩
  have hlt : lo < hi := by
    rcases l3 with rfl | ⟨hl, rfl⟩ <;> rcases r3 with rfl | ⟨hr, rfl⟩
    · exact hs
    · exact h2 hr
    · exact h1 hl
    · exact Xr_lt.2 (V.lr hl hr)
  obtain ⟨x, a1, a2, a3⟩ := between hlt E
  exact ⟨x, ⟨show Xr s.a < x by grind, show x < Xr s.b by grind⟩, ⟨fun h => by have := l2 h; grind, fun h => by have := r2 h; grind⟩, a3⟩
theorem hit_iff (O : SOk ((id, s) :: S)) (V : Val S t) {n : Int} {g : Bool} : hitB S s ⟨t, n, g⟩ = true ↔ g = false ∧ Pass S s t := by
  obtain ⟨sa, sb, _⟩ := O.rng (id, s) (by simp)
  simp only at sa sb
  have key : ∀ x, (lnS s).spans x → InX t x → ((t.bot ≠ 0 → ¬ sideZ (sgOf S t.bot) s < 0) ∧ (t.top ≠ 0 → ¬ 0 < sideZ (sgOf S t.top) s) ↔ InT S t x ((lnS s).at x)) := by
    intro x hx ix
    have eb : t.bot ≠ 0 → (¬ sideZ (sgOf S t.bot) s < 0 ↔ (botL S t).at x < (lnS s).at x) := fun hb => by
      have hm := (V.bot hb).1
      have hne : (t.bot, sgOf S t.bot) ≠ (id, s) := fun e => O.fresh hm (by rw [e])
      have := side_sign O (q := (t.bot, sgOf S t.bot)) (r := (id, s)) (by simp [hm]) (by simp) hne (V.botSp hb ix) hx
      have ne := O.sep (t.bot, sgOf S t.bot) (by simp [hm]) (id, s) (by simp) hne x (V.botSp hb ix) hx
      rw [this.2]
      unfold botL
      simp only at ne
      grind
    have et : t.top ≠ 0 → (¬ 0 < sideZ (sgOf S t.top) s ↔ (lnS s).at x < (topL S t).at x) := fun hb => by
      have hm := (V.top hb).1
      have hne : (t.top, sgOf S t.top) ≠ (id, s) := fun e => O.fresh hm (by rw [e])
      have := side_sign O (q := (t.top, sgOf S t.top)) (r := (id, s)) (by simp [hm]) (by simp) hne (V.topSp hb ix) hx
      have ne := O.sep (t.top, sgOf S t.top) (by simp [hm]) (id, s) (by simp) hne x (V.topSp hb ix) hx
      rw [this.1]
      unfold topL
      simp only at ne
      grind
    constructor
    · rintro ⟨g1, g2⟩
      exact ⟨ix, fun hb => (eb hb).1 (g1 hb), fun hb => (et hb).1 (g2 hb)⟩
    · rintro ⟨_, g1, g2⟩
      exact ⟨fun hb => (eb hb).2 (g1 hb), fun hb => (et hb).2 (g2 hb)⟩
  have wlb : t.hl = true → (lessB t.l s.b = true ↔ Xr t.l < Xr s.b) := fun h => less_X (O.tail.endIn (V.wl h).1) sb
  have wrb : t.hr = true → (lessB s.a t.r = true ↔ Xr s.a < Xr t.r) := fun h => less_X sa (O.tail.endIn (V.wr h).1)
  have unf : hitB S s ⟨t, n, g⟩ = true ↔ g = false ∧ (t.hl = true → lessB t.l s.b = true) ∧ (t.hr = true → lessB s.a t.r = true) ∧ (t.bot ≠ 0 → ¬ sideZ (sgOf S t.bot) s < 0) ∧ (t.top ≠ 0 → ¬ 0 < sideZ (sgOf S t.top) s) := by
    unfold hitB
    simp only [Bool.and_eq_true, Bool.not_eq_true', Bool.and_eq_false_iff, Bool.not_eq_false', bne_eq_false_iff_eq, decide_eq_false_iff_not]
    constructor
    · rintro ⟨h1, h2, h3, h4, h5⟩
      refine ⟨h1, fun h => ?_, fun h => ?_, fun h => ?_, fun h => ?_⟩
      · rcases h2 with h2 | h2; · rw [h] at h2; cases h2
        · exact h2
      · rcases h3 with h2 | h2; · rw [h] at h2; cases h2
        · exact h2
      · rcases h4 with h2 | h2; · exact absurd h2 h
        · exact h2
      · rcases h5 with h2 | h2; · exact absurd h2 h
        · exact h2
    · rintro ⟨h1, h2, h3, h4, h5⟩
      refine ⟨h1, ?_, ?_, ?_, ?_⟩
      · cases hh : t.hl; · exact .inl rfl
        · exact .inr (h2 hh)
      · cases hh : t.hr; · exact .inl rfl
        · exact .inr (h3 hh)
      · by_cases hh : t.bot = 0; · exact .inl hh
        · exact .inr (h4 hh)
      · by_cases hh : t.top = 0; · exact .inl hh
        · exact .inr (h5 hh)
  rw [unf]
  constructor
  · rintro ⟨hg, h1, h2, h3⟩
    refine ⟨hg, ?_⟩
    obtain ⟨x, hx, ix, _⟩ := common O V (fun h => (wlb h).1 (h1 h)) (fun h => (wrb h).1 (h2 h)) []
    exact ⟨x, hx, (key x hx ix).1 h3⟩
  · rintro ⟨hg, x, hx, hI⟩
    have x1 : Xr s.a < x := hx.1
    have x2 : x < Xr s.b := hx.2
    exact ⟨hg, fun h => (wlb h).2 (by have := hI.ix.1 h; grind), fun h => (wrb h).2 (by have := hI.ix.2 h; grind), (key x hx hI.ix).2 hI⟩
end Go.Proofs.Ytlhmjhildlnokaa

/-
  Questions as the program asks them.
-/
namespace Go.Proofs.Ytlhmjhildlnokaa
set_option linter.unusedVariables false
set_option linter.unusedSimpArgs false
open Go.RowKit Go.Sort Go.Shelf
variable {S : List (Int × Sg)} {N : List Nd}
inductive Ans where
  | on (id : Int)
  | leaf (n : Nat)
/-! ### Questions as the program asks them -/
inductive DescZ (N : List Nd) (S : List (Int × Sg)) (q : Pt) : Nat → Nat → Ans → Prop
  | leaf {n : Nat} {d : Nd} (h : N[n]? = some d) (hk : d.k = 0) : DescZ N S q 0 n (.leaf n)
  | ptL {n m k : Nat} {d : Nd} {r : Ans} (h : N[n]? = some d) (hk : d.k = 1) (hx : lessB q d.p = true) (hm : d.a = (m : Int)) (hd : DescZ N S q k m r) : DescZ N S q (k + 1) n r
  | ptR {n m k : Nat} {d : Nd} {r : Ans} (h : N[n]? = some d) (hk : d.k = 1) (hx : lessB q d.p = false) (hm : d.b = (m : Int)) (hd : DescZ N S q k m r) : DescZ N S q (k + 1) n r
  | lnU {n m k : Nat} {d : Nd} {r : Ans} (h : N[n]? = some d) (hk : d.k = 2) (hy : turnB (sgOf S d.id).a (sgOf S d.id).b q = 1) (hm : d.a = (m : Int)) (hd : DescZ N S q k m r) : DescZ N S q (k + 1) n r
  | lnD {n m k : Nat} {d : Nd} {r : Ans} (h : N[n]? = some d) (hk : d.k = 2) (hy : turnB (sgOf S d.id).a (sgOf S d.id).b q = -1) (hm : d.b = (m : Int)) (hd : DescZ N S q k m r) : DescZ N S q (k + 1) n r
  | on {n : Nat} {d : Nd} (h : N[n]? = some d) (hk : d.k = 2) (hy : turnB (sgOf S d.id).a (sgOf S d.id).b q = 0) : DescZ N S q 0 n (.on d.id)
theorem DescZ.node {q : Pt} {k n : Nat} {r : Ans} (h : DescZ N S q k n r) : ∃ d, N[n]? = some d := by cases h <;> exact ⟨_, by assumption⟩
/-- One answer. -/
theorem DescZ.one {q : Pt} {k n : Nat} {r : Ans} (h : DescZ N S q k n r) : ∀ {k' r'}, DescZ N S q k' n r' → r = r' := by
  induction h with
  | leaf h hk =>
    intro k' r' g
    cases g with
    | leaf h' hk' => rfl
    | ptL h' hk' => rw [h] at h'; injection h' with h'; subst h'; omega
    | ptR h' hk' => rw [h] at h'; injection h' with h'; subst h'; omega
    | lnU h' hk' => rw [h] at h'; injection h' with h'; subst h'; omega
    | lnD h' hk' => rw [h] at h'; injection h' with h'; subst h'; omega
    | on h' hk' => rw [h] at h'; injection h' with h'; subst h'; omega
  | ptL h hk hx hm _ ih =>
    intro k' r' g
    cases g with
    | leaf h' hk' => rw [h] at h'; injection h' with h'; subst h'; omega
    | ptL h' hk' hx' hm' g => rw [h] at h'; injection h' with h'; subst h'; rw [hm] at hm'; rw [Int.ofNat.inj hm'] at ih; exact ih g
    | ptR h' hk' hx' => rw [h] at h'; injection h' with h'; subst h'; rw [hx] at hx'; cases hx'
    | lnU h' hk' => rw [h] at h'; injection h' with h'; subst h'; omega
    | lnD h' hk' => rw [h] at h'; injection h' with h'; subst h'; omega
    | on h' hk' => rw [h] at h'; injection h' with h'; subst h'; omega
  | ptR h hk hx hm _ ih =>
    intro k' r' g
    cases g with
    | leaf h' hk' => rw [h] at h'; injection h' with h'; subst h'; omega
    | ptR h' hk' hx' hm' g => rw [h] at h'; injection h' with h'; subst h'; rw [hm] at hm'; rw [Int.ofNat.inj hm'] at ih; exact ih g
    | ptL h' hk' hx' => rw [h] at h'; injection h' with h'; subst h'; rw [hx] at hx'; cases hx'
    | lnU h' hk' => rw [h] at h'; injection h' with h'; subst h'; omega
    | lnD h' hk' => rw [h] at h'; injection h' with h'; subst h'; omega
    | on h' hk' => rw [h] at h'; injection h' with h'; subst h'; omega
  | lnU h hk hx hm _ ih =>
    intro k' r' g
    cases g with
    | leaf h' hk' => rw [h] at h'; injection h' with h'; subst h'; omega
    | ptL h' hk' => rw [h] at h'; injection h' with h'; subst h'; omega
    | ptR h' hk' => rw [h] at h'; injection h' with h'; subst h'; omega
    | lnU h' hk' hx' hm' g => rw [h] at h'; injection h' with h'; subst h'; rw [hm] at hm'; rw [Int.ofNat.inj hm'] at ih; exact ih g
    | lnD h' hk' hx' => rw [h] at h'; injection h' with h'; subst h'; rw [hx] at hx'; cases hx'
    | on h' hk' hx' => rw [h] at h'; injection h' with h'; subst h'; rw [hx] at hx'; cases hx'
  | lnD h hk hx hm _ ih =>
    intro k' r' g
    cases g with
    | leaf h' hk' => rw [h] at h'; injection h' with h'; subst h'; omega
    | ptL h' hk' => rw [h] at h'; injection h' with h'; subst h'; omega
    | ptR h' hk' => rw [h] at h'; injection h' with h'; subst h'; omega
    | lnD h' hk' hx' hm' g => rw [h] at h'; injection h' with h'; subst h'; rw [hm] at hm'; rw [Int.ofNat.inj hm'] at ih; exact ih g
    | lnU h' hk' hx' => rw [h] at h'; injection h' with h'; subst h'; rw [hx] at hx'; cases hx'
    | on h' hk' hx' => rw [h] at h'; injection h' with h'; subst h'; rw [hx] at hx'; cases hx'
  | on h hk hx =>
    intro k' r' g
    cases g with
    | leaf h' hk' => rw [h] at h'; injection h' with h'; subst h'; omega
    | ptL h' hk' => rw [h] at h'; injection h' with h'; subst h'; omega
    | ptR h' hk' => rw [h] at h'; injection h' with h'; subst h'; omega
    | lnU h' hk' hx' => rw [h] at h'; injection h' with h'; subst h'; rw [hx] at hx'; cases hx'
    | lnD h' hk' hx' => rw [h] at h'; injection h' with h'; subst h'; rw [hx] at hx'; cases hx'
    | on h' hk' hx' => rw [h] at h'; injection h' with h'; subst h'; rfl
end Go.Proofs.Ytlhmjhildlnokaa

/-
  The graph of questions; the trapezes that a line crosses stand in a row.
-/
namespace Go.Proofs.Ytlhmjhildlnokaa
set_option linter.unusedVariables false
set_option linter.unusedSimpArgs false
open Go.RowKit Go.Sort Go.Shelf
/-! ### The graph of questions, and what an index is -/
/-- From a node to an answer, in so many steps. -/
inductive Desc (N : List Nd) (S : List (Int × Sg)) (x y : Rat) : Nat → Nat → Ans → Prop
  | leaf {n : Nat} {q : Nd} (h : N[n]? = some q) (hk : q.k = 0) : Desc N S x y 0 n (.leaf n)
  | ptL {n m k : Nat} {q : Nd} {r : Ans} (h : N[n]? = some q) (hk : q.k = 1) (hp : InP q.p) (hx : x < Xr q.p) (hm : q.a = (m : Int)) (hd : Desc N S x y k m r) : Desc N S x y (k + 1) n r
  | ptR {n m k : Nat} {q : Nd} {r : Ans} (h : N[n]? = some q) (hk : q.k = 1) (hp : InP q.p) (hx : Xr q.p < x) (hm : q.b = (m : Int)) (hd : Desc N S x y k m r) : Desc N S x y (k + 1) n r
  | lnU {n m k : Nat} {q : Nd} {s : Sg} {r : Ans} (h : N[n]? = some q) (hk : q.k = 2) (hs : (q.id, s) ∈ S) (hy : (lnS s).at x < y) (hm : q.a = (m : Int)) (hd : Desc N S x y k m r) : Desc N S x y (k + 1) n r
  | lnD {n m k : Nat} {q : Nd} {s : Sg} {r : Ans} (h : N[n]? = some q) (hk : q.k = 2) (hs : (q.id, s) ∈ S) (hy : y < (lnS s).at x) (hm : q.b = (m : Int)) (hd : Desc N S x y k m r) : Desc N S x y (k + 1) n r
  | on {n : Nat} {q : Nd} {s : Sg} (h : N[n]? = some q) (hk : q.k = 2) (hs : (q.id, s) ∈ S) (hy : y = (lnS s).at x) : Desc N S x y 0 n (.on q.id)
structure TI (S : List (Int × Sg)) (N : List Nd) (P : List Pc) : Prop where
  ok : SOk S
  wf : WfP N P
  val : ∀ (i : Nat) (p : Pc), P[i]? = some p → p.g = false → Val S p.t
  leaf : ∀ (i : Nat) (p : Pc), P[i]? = some p → p.g = false → N[p.n.toNat]? = some (lfN i)
  dist : ∀ (i j : Nat) (p q : Pc), P[i]? = some p → P[j]? = some q → p.g = false → q.g = false → p.t = q.t → i = j
  down : ∀ x y : Rat, (∀ e, EndS S e → x ≠ Xr e) → (∃ (k : Nat) (id : Int) (sg : Sg), (id, sg) ∈ S ∧ (lnS sg).spans x ∧ y = (lnS sg).at x ∧ Desc N S x y k 0 (.on id)) ∨ (∃ (k i : Nat) (p : Pc), P[i]? = some p ∧ p.g = false ∧ InT S p.t x y ∧ Desc N S x y k 0 (.leaf p.n.toNat))
theorem TI.start : TI [] [nd0] [pc0] := by
  have one : ∀ {i : Nat} {p : Pc}, [pc0][i]? = some p → i = 0 ∧ p = pc0 := fun {i p} h => by
    cases i
    · exact ⟨rfl, by simpa using h.symm⟩
    · simp at h
  refine ⟨⟨by simp, by simp, by simp, by simp, by simp⟩, ?_, fun i p h _ => ?_, fun i p h _ => ?_, fun i j p q h g _ _ _ => ?_, fun x y _ => ?_⟩
  · intro p hp
    obtain rfl : p = pc0 := by simpa using hp
    exact ⟨by decide, by decide⟩
  · obtain ⟨_, rfl⟩ := one h
    exact ⟨fun h => absurd rfl h, fun h => absurd rfl h, (by intro h; cases h), fun h => absurd rfl h, (by intro h; cases h), (by intro h; cases h), (by simp), fun _ => rfl, fun _ => rfl⟩
  · obtain ⟨rfl, rfl⟩ := one h
    rfl
  · rw [(one h).1, (one g).1]
  · right
    exact ⟨0, 0, pc0, rfl, rfl, ⟨⟨(by intro h; cases h), (by intro h; cases h)⟩, fun h => absurd rfl h, fun h => absurd rfl h⟩, .leaf (q := nd0) rfl rfl⟩

/-! ### The trapezes that a line crosses stand in a row -/
/-- Intervals in order that share nothing and leave nothing out. -/
theorem chainR {L R : Nat → Rat} {m : Nat} {a b : Rat} {E : List Rat} (hab : a < b) (hne : ∀ k, k < m → L k < R k ∧ a ≤ L k ∧ R k ≤ b) (hs : ∀ k k', k < k' → k' < m → L k ≤ L k')
    (hd : ∀ k k' x, k < m → k' < m → L k < x → x < R k → L k' < x → x < R k' → k = k') (hc : ∀ x, a < x → x < b → x ∉ E → ∃ k, k < m ∧ L k < x ∧ x < R k) :
    0 < m ∧ (0 < m → L 0 = a) ∧ (∀ k, k + 1 < m → R k = L (k + 1)) ∧ (∀ k k', k < k' → k' < m → R k ≤ L k') ∧ (0 < m → R (m - 1) = b) := by
  have pair : ∀ k k', k < k' → k' < m → R k ≤ L k' := by
    intro k k' h1 h2
    by_cases g : R k ≤ L k'
    · exact g
    exfalso
    have a1 := hne k (by omega)
    have a2 := hne k' h2
    have a3 := hs k k' h1 h2
    by_cases g2 : R k ≤ R k'
    · have := hd k k' ((L k' + R k) / 2) (by omega) h2 (by grind) (by grind) (by grind) (by grind)
      omega
    · have := hd k k' ((L k' + R k') / 2) (by omega) h2 (by grind) (by grind) (by grind) (by grind)
      omega
  have m0 : 0 < m := by
    obtain ⟨x, h1, h2, h3⟩ := between hab E
    obtain ⟨k, hk, _⟩ := hc x h1 h2 h3
    omega
  refine ⟨m0, fun _ => ?_, fun k hk => ?_, pair, fun _ => ?_⟩
  · by_cases g : L 0 = a
    · exact g
    exfalso
    have h0 := hne 0 m0
    obtain ⟨x, h1, h2, h3⟩ := between (show a < L 0 by grind) E
    obtain ⟨k, hk, g1, g2⟩ := hc x h1 (by grind) h3
    by_cases k0 : k = 0
    · subst k0; grind
    · have := hs 0 k (by omega) hk
      grind
  · have p := pair k (k + 1) (by omega) hk
    by_cases g : R k = L (k + 1)
    · exact g
    exfalso
    have h0 := hne k (by omega)
    have h1 := hne (k + 1) hk
    obtain ⟨x, x1, x2, x3⟩ := between (show R k < L (k + 1) by grind) E
    obtain ⟨k2, hk2, g1, g2⟩ := hc x (by grind) (by grind) x3
    by_cases c1 : k2 ≤ k
    · by_cases c2 : k2 = k
      · subst c2; grind
      · have := pair k2 k (by omega) (by omega)
        grind
    · by_cases c2 : k2 = k + 1
      · subst c2; grind
      · have := hs (k + 1) k2 (by omega) hk2
        grind
  · by_cases g : R (m - 1) = b
    · exact g
    exfalso
    have h0 := hne (m - 1) (by omega)
    obtain ⟨x, x1, x2, x3⟩ := between (show R (m - 1) < b by grind) E
    obtain ⟨k2, hk2, g1, g2⟩ := hc x (by grind) x2 x3
    by_cases c2 : k2 = m - 1
    · subst c2; grind
    · have := pair k2 (m - 1) (by omega) (by omega)
      grind
def endsX (S : List (Int × Sg)) : List Rat := S.flatMap fun q => [Xr q.2.a, Xr q.2.b]
theorem endsX_iff {S : List (Int × Sg)} {x : Rat} : x ∉ endsX S ↔ ∀ e, EndS S e → x ≠ Xr e := by
  unfold endsX EndS
  simp only [List.mem_flatMap, List.mem_cons, List.not_mem_nil, or_false, not_exists, not_and]
  constructor
  · rintro h e ⟨q, hq, rfl | rfl⟩ rfl
    · exact h q hq (.inl rfl)
    · exact h q hq (.inr rfl)
  · rintro h q hq (rfl | rfl)
    · exact h _ ⟨q, hq, .inl rfl⟩ rfl
    · exact h _ ⟨q, hq, .inr rfl⟩ rfl
section
variable {S : List (Int × Sg)} {N : List Nd} {P : List Pc} {id : Int} {s : Sg} {all : List Nat}
abbrev tK (P : List Pc) (all : List Nat) (k : Nat) : Tz := (pk P all k).t
/-- What is known ahead of the rounds. -/
structure Cx (S : List (Int × Sg)) (N : List Nd) (P : List Pc) (id : Int) (s : Sg) (all : List Nat) : Prop where
  ok : SOk ((id, s) :: S)
  ti : TI S N P
  cr : CrossP P S s all
theorem Cx.mem (C : Cx S N P id s all) {i : Nat} {p : Pc} (hp : P[i]? = some p) : i ∈ all ↔ p.g = false ∧ Pass S s p.t := by
  rw [C.cr.1.mem_iff]
  unfold crossL
  rw [List.mem_filter, List.mem_range]
  unfold hitAt
  rw [hp]
  simp only
  obtain ⟨t, n, g⟩ := p
  constructor
  · rintro ⟨_, h⟩
    have hg : g = false := by
      unfold hitB at h
      cases g
      · rfl
      · simp at h
    exact (hit_iff C.ok (C.ti.val i _ hp hg)).1 h
  · intro h
    exact ⟨(List.getElem?_eq_some_iff.1 hp).1, (hit_iff C.ok (C.ti.val i _ hp h.1)).2 h⟩
theorem Cx.nodup (C : Cx S N P id s all) : all.Nodup := (cross_few C.cr).1
theorem Cx.at (C : Cx S N P id s all) {k : Nat} (hk : k < all.length) : ∃ n, all[k]? = some n ∧ P[n]? = some (pk P all k) ∧ (pk P all k).g = false ∧ Pass S s (tK P all k) ∧ Val S (tK P all k) := by
  obtain ⟨n, hn⟩ : ∃ n, all[k]? = some n := ⟨_, List.getElem?_eq_getElem hk⟩
  obtain ⟨p, hp, hg⟩ := (cross_few C.cr).2.1 n (List.mem_of_getElem? hn)
  have e : pk P all k = p := by unfold pk; rw [hn]; show (P[n]?).getD pc0 = p; rw [hp]; rfl
  have := (C.mem hp).1 (List.mem_of_getElem? hn)
  refine ⟨n, hn, by rw [e]; exact hp, by rw [e]; exact hg, ?_, ?_⟩
  · show Pass S s (pk P all k).t
    rw [e]; exact this.2
  · show Val S (pk P all k).t
    rw [e]; exact C.ti.val n p hp hg
theorem Cx.val (C : Cx S N P id s all) {k : Nat} (hk : k < all.length) : Val S (tK P all k) := (C.at hk).choose_spec.2.2.2.2
theorem Cx.pass (C : Cx S N P id s all) {k : Nat} (hk : k < all.length) : Pass S s (tK P all k) := (C.at hk).choose_spec.2.2.2.1
theorem Cx.within (C : Cx S N P id s all) {k : Nat} (hk : k < all.length) {x : Rat} (hx : (lnS s).spans x) (ix : InX (tK P all k) x) : InT S (tK P all k) x ((lnS s).at x) := (C.pass hk).all C.ok (C.val hk) hx ix
theorem Cx.new (C : Cx S N P id s all) : InP s.a ∧ InP s.b ∧ Xr s.a < Xr s.b ∧ (lnS s).at (Xr s.a) = Yr s.a ∧ (lnS s).at (Xr s.b) = Yr s.b := by
  obtain ⟨h1, h2, _⟩ := C.ok.rng (id, s) (by simp)
  obtain ⟨h3, h4, h5⟩ := C.ok.ln1 (q := (id, s)) (by simp)
  exact ⟨h1, h2, h3, h4, h5⟩
def lowR (s : Sg) (t : Tz) : Rat := if t.hl = true ∧ Xr s.a < Xr t.l then Xr t.l else Xr s.a
def higR (s : Sg) (t : Tz) : Rat := if t.hr = true ∧ Xr t.r < Xr s.b then Xr t.r else Xr s.b
theorem low_iff {t : Tz} {x : Rat} : lowR s t < x ↔ Xr s.a < x ∧ (t.hl = true → Xr t.l < x) := by
  unfold lowR
  split
  · rename_i h
    constructor
    · intro g
      have := h.2
      exact ⟨by grind, fun _ => g⟩
    · exact fun g => g.2 h.1
  · rename_i h
    constructor
    · refine fun g => ⟨g, fun hl => ?_⟩
      have : ¬ Xr s.a < Xr t.l := fun q => h ⟨hl, q⟩
      grind
    · exact fun g => g.1
theorem hig_iff {t : Tz} {x : Rat} : x < higR s t ↔ x < Xr s.b ∧ (t.hr = true → x < Xr t.r) := by
  unfold higR
  split
  · rename_i h
    constructor
    · intro g
      have := h.2
      exact ⟨by grind, fun _ => g⟩
    · exact fun g => g.2 h.1
  · rename_i h
    constructor
    · refine fun g => ⟨g, fun hl => ?_⟩
      have : ¬ Xr t.r < Xr s.b := fun q => h ⟨hl, q⟩
      grind
    · exact fun g => g.1
theorem in_iff {t : Tz} {x : Rat} : (lowR s t < x ∧ x < higR s t) ↔ (lnS s).spans x ∧ InX t x := by
  rw [low_iff, hig_iff]
  constructor
  · rintro ⟨⟨h1, h2⟩, h3, h4⟩; exact ⟨⟨h1, h3⟩, h2, h4⟩
  · rintro ⟨⟨h1, h3⟩, h2, h4⟩; exact ⟨⟨h1, h2⟩, h3, h4⟩
theorem Cx.one (C : Cx S N P id s all) {k k' : Nat} (hk : k < all.length) (hk' : k' < all.length) {x y : Rat} (h : InT S (tK P all k) x y) (h' : InT S (tK P all k') x y) : k = k' := by
  obtain ⟨n, a1, a2, a3, _, a5⟩ := C.at hk
  obtain ⟨n', b1, b2, b3, _, b5⟩ := C.at hk'
  have e := val_uniq C.ti.ok a5 b5 h h'
  have := C.ti.dist n n' _ _ a2 b2 a3 b3 e
  exact (List.getElem?_inj hk C.nodup).1 (by rw [a1, b1, this])
theorem Cx.chain (C : Cx S N P id s all) : 0 < all.length ∧ (0 < all.length → lowR s (tK P all 0) = Xr s.a) ∧ (∀ k, k + 1 < all.length → higR s (tK P all k) = lowR s (tK P all (k + 1))) ∧
    (∀ k k', k < k' → k' < all.length → higR s (tK P all k) ≤ lowR s (tK P all k')) ∧ (0 < all.length → higR s (tK P all (all.length - 1)) = Xr s.b) := by
  obtain ⟨sa, sb, hab, _, _⟩ := C.new
  refine chainR (L := fun k => lowR s (tK P all k)) (R := fun k => higR s (tK P all k)) (m := all.length) (E := endsX S) hab (fun k hk => ?_) (fun k k' h1 h2 => ?_) (fun k k' x h1 h2 h3 h4 h5 h6 => ?_) (fun x h1 h2 h3 => ?_)
  · obtain ⟨x, h1, h2⟩ := C.pass hk
    have := in_iff.2 ⟨h1, h2.ix⟩
    refine ⟨by grind, ?_, ?_⟩
    · unfold lowR; split
      · rename_i h; exact Rat.le_of_lt h.2
      · exact Rat.le_refl
    · unfold higR; split
      · rename_i h; exact Rat.le_of_lt h.2
      · exact Rat.le_refl
  · -- sorted by what is at their left
    obtain ⟨n, a1, a2, _⟩ := C.at (show k < all.length by omega)
    obtain ⟨n', b1, b2, _⟩ := C.at h2
    have hs := C.cr.2
    unfold SortC at hs
    rw [List.pairwise_iff_getElem] at hs
    have hh := hs k k' (by omega) h2 h1 (pk P all k) (pk P all k') (by rw [(List.getElem?_eq_some_iff.1 a1).2]; exact a2) (by rw [(List.getElem?_eq_some_iff.1 b1).2]; exact b2)
    have hn : ¬ ltT (tK P all k') (tK P all k) = true := by show ¬ ltT (pk P all k').t (pk P all k).t = true; rw [hh]; simp
    rw [ltT_iff] at hn
    unfold lowR
    have v1 := C.val (show k < all.length by omega)
    have v2 := C.val h2
    by_cases g : (tK P all k).hl = true ∧ Xr s.a < Xr (tK P all k).l
    · rw [if_pos g]
      have hl' : (tK P all k').hl = true := by
        cases e : (tK P all k').hl
        · exact absurd (.inl ⟨e, g.1⟩) hn
        · rfl
      have nl : ¬ lessB (tK P all k').l (tK P all k).l = true := fun q => hn (.inr ⟨hl', g.1, q⟩)
      rw [less_X (C.ti.ok.endIn (v2.wl hl').1) (C.ti.ok.endIn (v1.wl g.1).1)] at nl
      have g2 := g.2
      rw [if_pos ⟨hl', by grind⟩]
      grind
    · rw [if_neg g]
      split
      · rename_i h; exact Rat.le_of_lt h.2
      · exact Rat.le_refl
  · obtain ⟨p1, p2⟩ := in_iff.1 ⟨h3, h4⟩
    obtain ⟨q1, q2⟩ := in_iff.1 ⟨h5, h6⟩
    exact C.one h1 h2 (C.within h1 p1 p2) (C.within h2 q1 q2)
  · have sp : (lnS s).spans x := ⟨h1, h2⟩
    rcases C.ti.down x ((lnS s).at x) (endsX_iff.1 h3) with ⟨_, id', sg, g1, g2, g3, _⟩ | ⟨_, i, p, g1, g2, g3, _⟩
    · exact absurd g3 (C.ok.sep (id, s) (by simp) (id', sg) (by simp [g1]) (fun e => C.ok.fresh g1 (by rw [← e])) x sp g2)
    · have hm := (C.mem g1).2 ⟨g2, x, sp, g3⟩
      obtain ⟨k, hk⟩ := List.getElem?_of_mem hm
      have hkl := (List.getElem?_eq_some_iff.1 hk).1
      have e : pk P all k = p := by unfold pk; rw [hk]; show (P[i]?).getD pc0 = p; rw [g1]; rfl
      refine ⟨k, hkl, ?_⟩
      refine in_iff.2 ⟨sp, ?_⟩
      show InX (pk P all k).t x
      rw [e]; exact g3.ix
/-- Where they stand. -/
theorem Cx.link (C : Cx S N P id s all) {k : Nat} (hk : k + 1 < all.length) : (tK P all k).hr = true ∧ (tK P all (k + 1)).hl = true ∧ (tK P all k).r = (tK P all (k + 1)).l ∧ Xr s.a < Xr (tK P all (k + 1)).l ∧ Xr (tK P all (k + 1)).l < Xr s.b ∧
    lowR s (tK P all (k + 1)) = Xr (tK P all (k + 1)).l ∧ higR s (tK P all k) = Xr (tK P all (k + 1)).l := by
  obtain ⟨m0, c1, c2, c3, c4⟩ := C.chain
  have e := c2 k hk
  obtain ⟨x1, p1, q1⟩ := C.pass (show k < all.length by omega)
  obtain ⟨x2, p2, q2⟩ := C.pass hk
  have i1 := in_iff.2 ⟨p1, q1.ix⟩
  have i2 := in_iff.2 ⟨p2, q2.ix⟩
  have a1 : Xr s.a < x1 := p1.1
  have b2 : x2 < Xr s.b := p2.2
  have hl : (tK P all (k + 1)).hl = true ∧ Xr s.a < Xr (tK P all (k + 1)).l := by
    by_cases g : (tK P all (k + 1)).hl = true ∧ Xr s.a < Xr (tK P all (k + 1)).l
    · exact g
    · exfalso
      have : lowR s (tK P all (k + 1)) = Xr s.a := by unfold lowR; rw [if_neg g]
      grind
  have hr : (tK P all k).hr = true ∧ Xr (tK P all k).r < Xr s.b := by
    by_cases g : (tK P all k).hr = true ∧ Xr (tK P all k).r < Xr s.b
    · exact g
    · exfalso
      have : higR s (tK P all k) = Xr s.b := by unfold higR; rw [if_neg g]
      grind
  have e1 : lowR s (tK P all (k + 1)) = Xr (tK P all (k + 1)).l := by unfold lowR; rw [if_pos hl]
  have e2 : higR s (tK P all k) = Xr (tK P all k).r := by unfold higR; rw [if_pos hr]
  have ep := C.ti.ok.endEq ((C.val (show k < all.length by omega)).wr hr.1).1 ((C.val hk).wl hl.1).1 (by rw [← e1, ← e2]; exact e)
  exact ⟨hr.1, hl.1, ep, hl.2, by rw [← ep]; exact hr.2, e1, by rw [e2, ep]⟩
theorem Cx.first (C : Cx S N P id s all) : (tK P all 0).hl = true → Xr (tK P all 0).l ≤ Xr s.a := by
  intro h
  obtain ⟨m0, c1, _⟩ := C.chain
  have := c1 m0
  unfold lowR at this
  split at this
  · rename_i g; have := g.2; grind
  · rename_i g
    have : ¬ Xr s.a < Xr (tK P all 0).l := fun q => g ⟨h, q⟩
    grind
theorem Cx.last (C : Cx S N P id s all) : (tK P all (all.length - 1)).hr = true → Xr s.b ≤ Xr (tK P all (all.length - 1)).r := by
  intro h
  obtain ⟨m0, _, _, _, c1⟩ := C.chain
  have := c1 m0
  unfold higR at this
  split at this
  · rename_i g; have := g.2; grind
  · rename_i g
    have : ¬ Xr (tK P all (all.length - 1)).r < Xr s.b := fun q => g ⟨h, q⟩
    grind
/-- The places of the new walls. -/
theorem Cx.lftX (C : Cx S N P id s all) {k : Nat} (hk : k < all.length) : Xr (lftK P s all k) = lowR s (tK P all k) := by
  obtain ⟨m0, c1, _⟩ := C.chain
  unfold lftK
  by_cases h : k = 0
  · subst h; rw [if_pos rfl, c1 m0]
  · rw [if_neg h]
    obtain ⟨j, rfl⟩ : ∃ j, k = j + 1 := ⟨k - 1, by omega⟩
    exact (C.link hk).2.2.2.2.2.1.symm
theorem Cx.rgtX (C : Cx S N P id s all) {k : Nat} (hk : k < all.length) : Xr (rgtK P s all k) = higR s (tK P all k) := by
  obtain ⟨m0, _, _, _, c1⟩ := C.chain
  unfold rgtK
  by_cases h : k + 1 = all.length
  · rw [if_pos h, ← c1 m0, show all.length - 1 = k by omega]
  · rw [if_neg h]
    have := C.link (show k + 1 < all.length by omega)
    rw [this.2.2.2.2.2.2, ← this.2.2.1]
theorem Cx.mono (C : Cx S N P id s all) {k k' : Nat} (h : k < k') (hk : k' < all.length) : Xr (lftK P s all k) < Xr (lftK P s all k') ∧ Xr (rgtK P s all k) ≤ Xr (lftK P s all k') := by
  obtain ⟨m0, c1, c2, c3, c4⟩ := C.chain
  have h1 := c3 k k' h hk
  obtain ⟨x1, p1, q1⟩ := C.pass (show k < all.length by omega)
  have i1 := in_iff.2 ⟨p1, q1.ix⟩
  rw [C.lftX (by omega), C.lftX hk, C.rgtX (by omega)]
  exact ⟨by grind, h1⟩
theorem Cx.ctx (C : Cx S N P id s all) : CtxK N P id s all where
  pcs k hk := by
    obtain ⟨n, h1, h2, _⟩ := C.at hk
    exact ⟨n, h1, h2⟩
  nodup := C.nodup
  wf := C.ti.wf
  nn k k' hk hk' h := by
    obtain ⟨n, a1, a2, a3, _⟩ := C.at hk
    obtain ⟨n', b1, b2, b3, _⟩ := C.at hk'
    have l1 := C.ti.leaf n _ a2 a3
    have l2 := C.ti.leaf n' _ b2 b3
    rw [h] at l1
    have := l1.symm.trans l2
    injection this with this
    unfold lfN at this
    injection this with _ this
    have e : n = n' := by omega
    exact (List.getElem?_inj hk C.nodup).1 (by rw [a1, b1, e])
  ids k hk := ⟨((C.val hk).notId C.ok).2, ((C.val hk).notId C.ok).1⟩
  lft k k' hk hk' h := by
    rcases Nat.lt_trichotomy k k' with q | q | q
    · have := (C.mono q hk').1
      rw [h] at this
      exact absurd this (by grind)
    · exact q
    · have := (C.mono q hk).1
      rw [h] at this
      exact absurd this (by grind)
  ab := by
    obtain ⟨sa, sb, hab, _⟩ := C.new
    cases e : lessB s.b s.a
    · rfl
    · rw [less_X sb sa] at e
      exact absurd e (by grind)
end
end Go.Proofs.Ytlhmjhildlnokaa

/-
  Old trapezes among one line more; the rests at its ends; walls above and below it.
-/
namespace Go.Proofs.Ytlhmjhildlnokaa
set_option linter.unusedVariables false
set_option linter.unusedSimpArgs false
open Go.RowKit Go.Sort Go.Shelf
variable {S : List (Int × Sg)} {N : List Nd} {P : List Pc} {id : Int} {s : Sg} {all : List Nat} {t : Tz}
/-! ### Old trapezes among one line more -/
theorem botL_cons (h : t.bot ≠ id) : botL ((id, s) :: S) t = botL S t := by unfold botL; rw [sgOf_cons h]
theorem topL_cons (h : t.top ≠ id) : topL ((id, s) :: S) t = topL S t := by unfold topL; rw [sgOf_cons h]
theorem inT_cons (h1 : t.bot ≠ id) (h2 : t.top ≠ id) {x y : Rat} : InT ((id, s) :: S) t x y ↔ InT S t x y := by
  constructor
  · rintro ⟨a, b, c⟩
    rw [botL_cons h1] at b
    rw [topL_cons h2] at c
    exact ⟨a, b, c⟩
  · rintro ⟨a, b, c⟩
    rw [← botL_cons (s := s) (S := S) h1] at b
    rw [← topL_cons (s := s) (S := S) h2] at c
    exact ⟨a, b, c⟩
theorem EndS.cons {e : Pt} (h : EndS S e) : EndS ((id, s) :: S) e := by
  obtain ⟨q, hq, he⟩ := h
  exact ⟨q, by simp [hq], he⟩
theorem endS_a : EndS ((id, s) :: S) s.a := ⟨(id, s), by simp, .inl rfl⟩
theorem endS_b : EndS ((id, s) :: S) s.b := ⟨(id, s), by simp, .inr rfl⟩
theorem Val.keep (O : SOk ((id, s) :: S)) (V : Val S t) (hp : ¬ Pass S s t) : Val ((id, s) :: S) t := by
  obtain ⟨n1, n2⟩ := V.notId O
  refine ⟨fun h => ?_, fun h => ?_, V.lr, fun h1 h2 x hx => ?_, fun h => ?_, fun h => ?_, fun q hq x hx hI => ?_, V.zl, V.zr⟩
  · rw [sgOf_cons n1]
    obtain ⟨a, b⟩ := V.bot h
    exact ⟨by simp [a], b⟩
  · rw [sgOf_cons n2]
    obtain ⟨a, b⟩ := V.top h
    exact ⟨by simp [a], b⟩
  · rw [botL_cons n1, topL_cons n2]; exact V.bt h1 h2 x hx
  · rw [botL_cons n1, topL_cons n2]
    obtain ⟨a, b⟩ := V.wl h
    exact ⟨a.cons, b⟩
  · rw [botL_cons n1, topL_cons n2]
    obtain ⟨a, b⟩ := V.wr h
    exact ⟨a.cons, b⟩
  · rw [inT_cons n1 n2] at hI
    rcases List.mem_cons.1 hq with rfl | hq
    · exact hp ⟨x, hx, hI⟩
    · exact V.free q hq x hx hI
theorem sep_le {u v : Ln} (h : u.Sep v) {x y : Rat} (ux : u.spans x) (vx : v.spans x) (uy : u.near y) (vy : v.near y) (hlt : u.at x < v.at x) : u.at y ≤ v.at y := by
  by_cases e : u.at y = v.at y
  · rw [e]; exact Rat.le_refl
  · exact Rat.le_of_lt ((h.ends ux vx uy vy e).1 hlt)
theorem Cx.sepB (C : Cx S N P id s all) {k : Nat} (hk : k < all.length) (h : (tK P all k).bot ≠ 0) : (botL S (tK P all k)).Sep (lnS s) := by
  have hm := ((C.val hk).bot h).1
  exact C.ok.sep _ (List.mem_cons_of_mem _ hm) (id, s) (by simp) fun e => C.ok.fresh hm (congrArg Prod.fst e)
theorem Cx.sepT (C : Cx S N P id s all) {k : Nat} (hk : k < all.length) (h : (tK P all k).top ≠ 0) : (lnS s).Sep (topL S (tK P all k)) := by
  have hm := ((C.val hk).top h).1
  exact C.ok.sep (id, s) (by simp) (_, sgOf S (tK P all k).top) (List.mem_cons_of_mem _ hm) fun e => C.ok.fresh hm (congrArg Prod.fst e).symm
/-- A line as it stands at its ends. -/
theorem Cx.nearS (C : Cx S N P id s all) : (lnS s).near (Xr s.a) ∧ (lnS s).near (Xr s.b) := by
  have := C.new.2.2.1
  exact ⟨⟨Rat.le_refl, show Xr s.a ≤ Xr s.b by grind⟩, ⟨show Xr s.a ≤ Xr s.b by grind, Rat.le_refl⟩⟩
theorem Cx.valL (C : Cx S N P id s all) (h : cbK P s all 0 = true) : Val ((id, s) :: S) (tzK P id s all .L) := by
  have m0 := C.chain.1
  have V := C.val m0
  obtain ⟨n1, n2⟩ := V.notId C.ok
  obtain ⟨sa, sb, hab, ya, yb⟩ := C.new
  obtain ⟨x0, p0, q0⟩ := C.pass m0
  have a0 : Xr s.a < x0 := p0.1
  have hla : (tK P all 0).hl = true → Xr (tK P all 0).l < Xr s.a := fun hl => by
    unfold cbK at h
    simp only [Bool.and_eq_true, Bool.or_eq_true, Bool.not_eq_true'] at h
    rcases h.2 with g | g
    · exact absurd (g.symm.trans hl) (by simp)
    · exact (less_X (C.ti.ok.endIn (V.wl hl).1) sa).1 g
  have har : (tK P all 0).hr = true → Xr s.a < Xr (tK P all 0).r := fun hr => by have := q0.ix.2 hr; grind
  have sub : ∀ {x : Rat}, InX (tzK P id s all .L) x → InX (tK P all 0) x ∧ x < Xr s.a := fun {x} hx => by
    have hxa : x < Xr s.a := hx.2 rfl
    exact ⟨⟨hx.1, fun hr => by have := har hr; grind⟩, hxa⟩
  have eb : botL ((id, s) :: S) (tzK P id s all .L) = botL S (tK P all 0) := botL_cons n1
  have et : topL ((id, s) :: S) (tzK P id s all .L) = topL S (tK P all 0) := topL_cons n2
  refine ⟨fun hb => ?_, fun hb => ?_, fun h1 _ => Xr_lt.1 (hla h1), fun h1 h2 x hx => ?_, fun hl => ?_, fun _ => ⟨endS_a, fun hb => ?_, fun hb => ?_⟩, fun q hq x hx hI => ?_, V.zl, fun h => by cases h⟩
  · obtain ⟨b1, b2, b3, b4, b5⟩ := V.bot hb
    have e : sgOf ((id, s) :: S) (tzK P id s all .L).bot = sgOf S (tK P all 0).bot := sgOf_cons n1
    rw [e]
    refine ⟨List.mem_cons_of_mem _ b1, b2, rfl, b4, ?_⟩
    have := Xr_lt.1 (har b3)
    show Xi s.a ≤ _
    omega
  · obtain ⟨b1, b2, b3, b4, b5⟩ := V.top hb
    have e : sgOf ((id, s) :: S) (tzK P id s all .L).top = sgOf S (tK P all 0).top := sgOf_cons n2
    rw [e]
    refine ⟨List.mem_cons_of_mem _ b1, b2, rfl, b4, ?_⟩
    have := Xr_lt.1 (har b3)
    show Xi s.a ≤ _
    omega
  · rw [eb, et]; exact V.bt h1 h2 x (sub hx).1
  · rw [eb, et]
    obtain ⟨w1, w2⟩ := V.wl hl
    exact ⟨w1.cons, w2⟩
  · rw [eb]
    obtain ⟨b1, b2, b3, b4, b5⟩ := V.bot hb
    have sp := V.botSp hb (x := Xr s.a) ⟨fun hl => hla hl, fun hr => har hr⟩
    have := sep_le (C.sepB m0 hb) (V.botSp hb q0.ix) p0 ⟨Rat.le_of_lt sp.1, Rat.le_of_lt sp.2⟩ C.nearS.1 (q0.lo hb)
    rw [ya] at this
    exact this
  · rw [et]
    have sp := V.topSp hb (x := Xr s.a) ⟨fun hl => hla hl, fun hr => har hr⟩
    have := sep_le (C.sepT m0 hb) p0 (V.topSp hb q0.ix) C.nearS.1 ⟨Rat.le_of_lt sp.1, Rat.le_of_lt sp.2⟩ (q0.hi hb)
    rw [ya] at this
    exact this
  · obtain ⟨i1, i2⟩ := sub hI.ix
    rcases List.mem_cons.1 hq with rfl | hq
    · have : Xr s.a < x := hx.1
      grind
    · exact V.free q hq x hx ⟨i1, fun hb => by have := hI.lo hb; rw [eb] at this; exact this, fun hb => by have := hI.hi hb; rw [et] at this; exact this⟩
theorem Cx.valR (C : Cx S N P id s all) (h : ceK P s all (all.length - 1) = true) : Val ((id, s) :: S) (tzK P id s all .R) := by
  have m0 := C.chain.1
  have m1 : all.length - 1 < all.length := by omega
  have V := C.val m1
  obtain ⟨n1, n2⟩ := V.notId C.ok
  obtain ⟨sa, sb, hab, ya, yb⟩ := C.new
  obtain ⟨x0, p0, q0⟩ := C.pass m1
  have a0 : x0 < Xr s.b := p0.2
  have hbr : (tK P all (all.length - 1)).hr = true → Xr s.b < Xr (tK P all (all.length - 1)).r := fun hl => by
    unfold ceK at h
    simp only [Bool.and_eq_true, Bool.or_eq_true, Bool.not_eq_true'] at h
    rcases h.2 with g | g
    · exact absurd (g.symm.trans hl) (by simp)
    · exact (less_X sb (C.ti.ok.endIn (V.wr hl).1)).1 g
  have hlb : (tK P all (all.length - 1)).hl = true → Xr (tK P all (all.length - 1)).l < Xr s.b := fun hr => by have := q0.ix.1 hr; grind
  have sub : ∀ {x : Rat}, InX (tzK P id s all .R) x → InX (tK P all (all.length - 1)) x ∧ Xr s.b < x := fun {x} hx => by
    have hxa : Xr s.b < x := hx.1 rfl
    exact ⟨⟨fun hr => by have := hlb hr; grind, hx.2⟩, hxa⟩
  have eb : botL ((id, s) :: S) (tzK P id s all .R) = botL S (tK P all (all.length - 1)) := botL_cons n1
  have et : topL ((id, s) :: S) (tzK P id s all .R) = topL S (tK P all (all.length - 1)) := topL_cons n2
  refine ⟨fun hb => ?_, fun hb => ?_, fun _ h1 => Xr_lt.1 (hbr h1), fun h1 h2 x hx => ?_, fun _ => ⟨endS_b, fun hb => ?_, fun hb => ?_⟩, fun hl => ?_, fun q hq x hx hI => ?_, fun h => (by cases h), V.zr⟩
  · obtain ⟨b1, b2, b3, b4, b5⟩ := V.bot hb
    have e : sgOf ((id, s) :: S) (tzK P id s all .R).bot = sgOf S (tK P all (all.length - 1)).bot := sgOf_cons n1
    rw [e]
    refine ⟨List.mem_cons_of_mem _ b1, rfl, b3, ?_, b5⟩
    have := Xr_lt.1 (hlb b2)
    show _ ≤ Xi s.b
    omega
  · obtain ⟨b1, b2, b3, b4, b5⟩ := V.top hb
    have e : sgOf ((id, s) :: S) (tzK P id s all .R).top = sgOf S (tK P all (all.length - 1)).top := sgOf_cons n2
    rw [e]
    refine ⟨List.mem_cons_of_mem _ b1, rfl, b3, ?_, b5⟩
    have := Xr_lt.1 (hlb b2)
    show _ ≤ Xi s.b
    omega
  · rw [eb, et]; exact V.bt h1 h2 x (sub hx).1
  · rw [eb]
    have sp := V.botSp hb (x := Xr s.b) ⟨fun hl => hlb hl, fun hr => hbr hr⟩
    have := sep_le (C.sepB m1 hb) (V.botSp hb q0.ix) p0 ⟨Rat.le_of_lt sp.1, Rat.le_of_lt sp.2⟩ C.nearS.2 (q0.lo hb)
    rw [yb] at this
    exact this
  · rw [et]
    have sp := V.topSp hb (x := Xr s.b) ⟨fun hl => hlb hl, fun hr => hbr hr⟩
    have := sep_le (C.sepT m1 hb) p0 (V.topSp hb q0.ix) C.nearS.2 ⟨Rat.le_of_lt sp.1, Rat.le_of_lt sp.2⟩ (q0.hi hb)
    rw [yb] at this
    exact this
  · rw [eb, et]
    obtain ⟨w1, w2⟩ := V.wr hl
    exact ⟨w1.cons, w2⟩
  · obtain ⟨i1, i2⟩ := sub hI.ix
    rcases List.mem_cons.1 hq with rfl | hq
    · have : x < Xr s.b := hx.2
      grind
    · exact V.free q hq x hx ⟨i1, fun hb => by have := hI.lo hb; rw [eb] at this; exact this, fun hb => by have := hI.hi hb; rw [et] at this; exact this⟩
/-! ### Walls that stand below the line don't part what is above it -/
/-- A wall between two of them: off the line. -/
theorem Cx.wall (C : Cx S N P id s all) {k : Nat} (hk : k + 1 < all.length) : (lnS s).spans (Xr (tK P all (k + 1)).l) ∧ (lnS s).at (Xr (tK P all (k + 1)).l) ≠ Yr (tK P all (k + 1)).l ∧
    (upK P s all (k + 1) = true ↔ (lnS s).at (Xr (tK P all (k + 1)).l) < Yr (tK P all (k + 1)).l) ∧ (dnK P s all (k + 1) = true ↔ Yr (tK P all (k + 1)).l < (lnS s).at (Xr (tK P all (k + 1)).l)) := by
  obtain ⟨l1, l2, l3, l4, l5, _⟩ := C.link hk
  obtain ⟨sa, sb, hab, ya, yb⟩ := C.new
  have sp : (lnS s).spans (Xr (tK P all (k + 1)).l) := ⟨l4, l5⟩
  obtain ⟨q, hq, he⟩ := ((C.val hk).wl l2).1
  have ts := turn_sign (c := (tK P all (k + 1)).l) sa sb (C.ti.ok.endIn ((C.val hk).wl l2).1) hab
  refine ⟨sp, C.ok.off (id, s) (by simp) q (by simp [hq]) _ he sp, ?_, ?_⟩
  · unfold upK; rw [decide_eq_true_eq]; exact ts.1
  · unfold dnK; rw [decide_eq_true_eq]; exact ts.2.1
theorem Cx.topGo (C : Cx S N P id s all) {k j : Nat} (hk : k + 1 < all.length) (hj : j = k ∨ j = k + 1) (hd : Yr (tK P all (k + 1)).l < (lnS s).at (Xr (tK P all (k + 1)).l)) (ht : (tK P all j).top ≠ 0) :
    (topL S (tK P all j)).spans (Xr (tK P all (k + 1)).l) ∧ (lnS s).at (Xr (tK P all (k + 1)).l) < (topL S (tK P all j)).at (Xr (tK P all (k + 1)).l) := by
  obtain ⟨l1, l2, l3, l4, l5, _⟩ := C.link hk
  obtain ⟨w1, w2, _⟩ := C.wall hk
  have hjl : j < all.length := by omega
  have V := C.val hjl
  obtain ⟨x0, p0, q0⟩ := C.pass hjl
  obtain ⟨t1, t2, t3, t4, t5⟩ := V.top ht
  have hln := C.ti.ok.ln1 t1
  simp only at hln
  have s0 := V.topSp ht q0.ix
  have wall : Yr (tK P all (k + 1)).l ≤ (topL S (tK P all j)).at (Xr (tK P all (k + 1)).l) := by
    rcases hj with rfl | rfl
    · have := (V.wr l1).2.2 ht
      rw [l3] at this; exact this
    · exact (V.wl l2).2.2 ht
  have nr : (topL S (tK P all j)).near (Xr (tK P all (k + 1)).l) := by
    have a1 := Xr_le.2 t4
    have a2 := Xr_le.2 t5
    have a3 := Xr_lt.2 (V.lr t2 t3)
    unfold topL
    rcases hj with rfl | rfl
    · rw [l3] at a2 a3
      exact ⟨show Xr _ ≤ _ by grind, show _ ≤ Xr _ by grind⟩
    · exact ⟨show Xr _ ≤ _ by grind, show _ ≤ Xr _ by grind⟩
  have ne : (lnS s).at (Xr (tK P all (k + 1)).l) ≠ (topL S (tK P all j)).at (Xr (tK P all (k + 1)).l) ∨ (lnS s).at (Xr (tK P all (k + 1)).l) = (topL S (tK P all j)).at (Xr (tK P all (k + 1)).l) := by grind
  have le := sep_le (C.sepT hjl ht) p0 s0 ⟨Rat.le_of_lt w1.1, Rat.le_of_lt w1.2⟩ nr (q0.hi ht)
  have sp : (topL S (tK P all j)).spans (Xr (tK P all (k + 1)).l) := by
    have hw := ((C.val hk).wl l2).1
    have e1 : (sgOf S (tK P all j).top).a = (tK P all (k + 1)).l → False := fun e => by
      have : (topL S (tK P all j)).at (Xr (tK P all (k + 1)).l) = Yr (tK P all (k + 1)).l := by rw [← e]; exact hln.2.1
      grind
    have e2 : (sgOf S (tK P all j).top).b = (tK P all (k + 1)).l → False := fun e => by
      have : (topL S (tK P all j)).at (Xr (tK P all (k + 1)).l) = Yr (tK P all (k + 1)).l := by rw [← e]; exact hln.2.2
      grind
    have n1 : Xr (sgOf S (tK P all j).top).a ≠ Xr (tK P all (k + 1)).l := fun e => e1 (C.ti.ok.endEq ⟨_, t1, .inl rfl⟩ hw e)
    have n2 : Xr (sgOf S (tK P all j).top).b ≠ Xr (tK P all (k + 1)).l := fun e => e2 (C.ti.ok.endEq ⟨_, t1, .inr rfl⟩ hw e)
    have g1 : Xr (sgOf S (tK P all j).top).a ≤ Xr (tK P all (k + 1)).l := nr.1
    have g2 : Xr (tK P all (k + 1)).l ≤ Xr (sgOf S (tK P all j).top).b := nr.2
    exact ⟨show Xr (sgOf S (tK P all j).top).a < _ by grind, show _ < Xr (sgOf S (tK P all j).top).b by grind⟩
  exact ⟨sp, (C.sepT hjl ht).keeps p0 s0 w1 sp (q0.hi ht)⟩
theorem Cx.botGo (C : Cx S N P id s all) {k j : Nat} (hk : k + 1 < all.length) (hj : j = k ∨ j = k + 1) (hd : (lnS s).at (Xr (tK P all (k + 1)).l) < Yr (tK P all (k + 1)).l) (ht : (tK P all j).bot ≠ 0) :
    (botL S (tK P all j)).spans (Xr (tK P all (k + 1)).l) ∧ (botL S (tK P all j)).at (Xr (tK P all (k + 1)).l) < (lnS s).at (Xr (tK P all (k + 1)).l) := by
  obtain ⟨l1, l2, l3, l4, l5, _⟩ := C.link hk
  obtain ⟨w1, w2, _⟩ := C.wall hk
  have hjl : j < all.length := by omega
  have V := C.val hjl
  obtain ⟨x0, p0, q0⟩ := C.pass hjl
  obtain ⟨t1, t2, t3, t4, t5⟩ := V.bot ht
  have hln := C.ti.ok.ln1 t1
  simp only at hln
  have s0 := V.botSp ht q0.ix
  have wall : (botL S (tK P all j)).at (Xr (tK P all (k + 1)).l) ≤ Yr (tK P all (k + 1)).l := by
    rcases hj with rfl | rfl
    · have := (V.wr l1).2.1 ht
      rw [l3] at this; exact this
    · exact (V.wl l2).2.1 ht
  have nr : (botL S (tK P all j)).near (Xr (tK P all (k + 1)).l) := by
    have a1 := Xr_le.2 t4
    have a2 := Xr_le.2 t5
    have a3 := Xr_lt.2 (V.lr t2 t3)
    unfold botL
    rcases hj with rfl | rfl
    · rw [l3] at a2 a3
      exact ⟨show Xr _ ≤ _ by grind, show _ ≤ Xr _ by grind⟩
    · exact ⟨show Xr _ ≤ _ by grind, show _ ≤ Xr _ by grind⟩
  have le := sep_le (C.sepB hjl ht) s0 p0 nr ⟨Rat.le_of_lt w1.1, Rat.le_of_lt w1.2⟩ (q0.lo ht)
  have sp : (botL S (tK P all j)).spans (Xr (tK P all (k + 1)).l) := by
    have hw := ((C.val hk).wl l2).1
    have e1 : (sgOf S (tK P all j).bot).a = (tK P all (k + 1)).l → False := fun e => by
      have : (botL S (tK P all j)).at (Xr (tK P all (k + 1)).l) = Yr (tK P all (k + 1)).l := by rw [← e]; exact hln.2.1
      grind
    have e2 : (sgOf S (tK P all j).bot).b = (tK P all (k + 1)).l → False := fun e => by
      have : (botL S (tK P all j)).at (Xr (tK P all (k + 1)).l) = Yr (tK P all (k + 1)).l := by rw [← e]; exact hln.2.2
      grind
    have n1 : Xr (sgOf S (tK P all j).bot).a ≠ Xr (tK P all (k + 1)).l := fun e => e1 (C.ti.ok.endEq ⟨_, t1, .inl rfl⟩ hw e)
    have n2 : Xr (sgOf S (tK P all j).bot).b ≠ Xr (tK P all (k + 1)).l := fun e => e2 (C.ti.ok.endEq ⟨_, t1, .inr rfl⟩ hw e)
    have g1 : Xr (sgOf S (tK P all j).bot).a ≤ Xr (tK P all (k + 1)).l := nr.1
    have g2 : Xr (tK P all (k + 1)).l ≤ Xr (sgOf S (tK P all j).bot).b := nr.2
    exact ⟨show Xr (sgOf S (tK P all j).bot).a < _ by grind, show _ < Xr (sgOf S (tK P all j).bot).b by grind⟩
  exact ⟨sp, (C.sepB hjl ht).keeps s0 p0 sp w1 (q0.lo ht)⟩
end Go.Proofs.Ytlhmjhildlnokaa
