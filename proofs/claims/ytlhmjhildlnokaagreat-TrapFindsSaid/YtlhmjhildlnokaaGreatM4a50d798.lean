/-
  One round of put, seen from behind it.
-/
import Derived.Test.YtlhmjhildlnokaaGreatM4e94a5cd
import Derived.Test.YtlhmjhildlnokaaGreatM01095c5b
import Derived.Test.YtlhmjhildlnokaaGreatMd6b25c4b
import Derived.Test.YtlhmjhildlnokaaGreatM0d4adf42
import Derived.Test.YtlhmjhildlnokaaGreatM1a3b0c7a
namespace Go.Proofs.YtlhmjhildlnokaaGreat
set_option linter.unusedVariables false
set_option linter.unusedSimpArgs false
theorem all_same {f g : Nat → Bool} : ∀ (n : Nat), (∀ j, j < n → (List.range j).all g = true → f j = g j) → (List.range n).all f = (List.range n).all g
 | 0, _ => rfl
 | n + 1, h => by
  have ih := all_same n fun j hj => h j (by omega)
  rw [List.range_succ, List.all_append, List.all_append, ih]
  cases hg : (List.range n).all g with
  | false => rfl
  | true => simp [h n (by omega) hg]
theorem met_any (p : Pt) : ∀ (l : List Vt) (m : Pt → Option Bool), ((l.foldl (fun m v => upd m v.p true) m) p).getD false = ((m p).getD false || l.any fun u => decide (u.p = p))
 | [], m => by simp
 | v :: l, m => by
  rw [List.foldl_cons, met_any p l]
  by_cases h : v.p = p
  ·have : upd m v.p true p = some true := by unfold upd; rw [if_pos h.symm]
   rw [this]; simp [h]
  ·have : upd m v.p true p = m p := by unfold upd; rw [if_neg (fun e => h e.symm)]
   rw [this]; simp [h]
theorem metM_any (l : List Vt) (p : Pt) : (metM l p).getD false = l.any fun u => decide (u.p = p) := by
 have := met_any p l (fun _ => none)
 simpa [metM] using this
def pairP (a b : Int) : Pt := ⟨min a b, max a b⟩
theorem pair_same (a b c d : Int) : decide (pairP c d = pairP a b) = ((c == a && d == b) || (c == b && d == a)) := by
 rw [Bool.eq_iff_iff]
 simp only [pairP, decide_eq_true_eq, Pt.mk.injEq, Bool.or_eq_true, Bool.and_eq_true, beq_iff_eq]
 omega
theorem pair_any (a b : Int) : ∀ (l : List Eg) (m : Pt → Option Bool), ((l.foldl (fun m e => upd m ⟨min e.a e.b, max e.a e.b⟩ true) m) (pairP a b)).getD false = ((m (pairP a b)).getD false || linksB l a b)
 | [], m => by simp [linksB]
 | e :: l, m => by
  rw [List.foldl_cons, pair_any a b l]
  have hs := pair_same a b e.a e.b
  have hl : linksB (e :: l) a b = (((e.a == a && e.b == b) || (e.a == b && e.b == a)) || linksB l a b) := rfl
  rw [hl, ← hs]
  by_cases h : pairP e.a e.b = pairP a b
  ·have : upd m ⟨min e.a e.b, max e.a e.b⟩ true (pairP a b) = some true := if_pos h.symm
   rw [this]; simp [h]
  ·have : upd m ⟨min e.a e.b, max e.a e.b⟩ true (pairP a b) = m (pairP a b) := if_neg (fun q => h q.symm)
   rw [this]; simp [h]
theorem pairM_any (l : List Eg) (a b : Int) : (pairM l ⟨min a b, max a b⟩).getD false = linksB l a b := by
 have := pair_any a b l (fun _ => none)
 simpa [pairM, pairP] using this
structure VOK (vs : List Vt) (j : Nat) (v : Vt) : Prop where
 pos : 1 ≤ v.id
 inr : inB v.p = true
 prev : 0 < j → prevV vs j < v.id
 new : ∀ (i : Nat) (u : Vt), i < j → vs[i]? = some u → u.p ≠ v.p
theorem vok_iff {vs : List Vt} {j : Nat} {v : Vt} (h : vs[j]? = some v) : vOKr vs j = true ↔ VOK vs j v := by
 unfold vOKr
 rw [h]
 simp only [Bool.not_eq_true', Bool.or_eq_false_iff, decide_eq_false_iff_not, Bool.and_eq_false_iff, Bool.not_eq_false', List.any_eq_false, decide_eq_true_eq]
 constructor
 ·intro ⟨⟨h1, h2, h3⟩, h4⟩
  refine ⟨by omega, h3, fun hj => ?_, fun i u hi hu => h4 u (List.mem_of_getElem? (i := i) (by rw [List.getElem?_take, if_pos hi]; exact hu))⟩
  rcases h2 with h2 | h2
  ·exact absurd hj h2
  ·omega
 ·intro ⟨h1, h2, h3, h4⟩
  refine ⟨⟨by omega, ?_, h2⟩, fun u hu => ?_⟩
  ·by_cases hj : 0 < j
   ·exact .inr (by have := h3 hj; omega)
   ·exact .inl hj
  ·obtain ⟨i, hi⟩ := List.getElem?_of_mem hu
   rw [List.getElem?_take] at hi
   split at hi
   ·rename_i hij
    exact h4 i u hij hi
   ·cases hi
theorem lastV_prev {vs : List Vt} {j : Nat} (hj : 0 < j) (hl : j ≤ vs.length) : lastV (vs.take j) = prevV vs j := by
 obtain ⟨k, rfl⟩ : ∃ k, j = k + 1 := ⟨j - 1, by omega⟩
 have hk : vs[k]? = some vs[k] := List.getElem?_eq_getElem (by omega)
 rw [lastV_step hk]
 unfold prevV
 rw [show k + 1 - 1 = k from rfl, hk]; rfl
theorem lastE_prev {es : List Eg} {j : Nat} (hj : 0 < j) (hl : j ≤ es.length) : lastE (es.take j) = prevE es j := by
 obtain ⟨k, rfl⟩ : ∃ k, j = k + 1 := ⟨j - 1, by omega⟩
 have hk : es[k]? = some es[k] := List.getElem?_eq_getElem (by omega)
 rw [lastE_step hk]
 unfold prevE
 rw [show k + 1 - 1 = k from rfl, hk]; rfl
theorem vOK_same (vs : List Vt) (j : Nat) (h : (List.range j).all (vOKr vs) = true) : vOK vs j = vOKr vs j := by
 unfold vOK vOKr
 cases hv : vs[j]? with
 | none => rfl
 | some v =>
  have hjl : j < vs.length := (List.getElem?_eq_some_iff.1 hv).1
  simp only [metM_any]
  have e1 : decide (v.id ≤ lastV (vs.take j)) = (decide (v.id < 1) || (decide (0 < j) && decide (v.id ≤ prevV vs j))) := by
   by_cases hj : 0 < j
   ·rw [lastV_prev hj (by omega)]
    obtain ⟨k, rfl⟩ : ∃ k, j = k + 1 := ⟨j - 1, by omega⟩
    have hk : vs[k]? = some vs[k] := List.getElem?_eq_getElem (by omega)
    have := (vok_iff hk).1 (List.all_eq_true.1 h k (List.mem_range.2 (by omega)))
    have hp : prevV vs (k + 1) = vs[k].id := by unfold prevV; rw [show k + 1 - 1 = k from rfl, hk]; rfl
    rw [hp, Bool.eq_iff_iff]
    have := this.pos
    simp only [decide_eq_true_eq, Bool.or_eq_true, Bool.and_eq_true]
    omega
   ·obtain rfl : j = 0 := by omega
    rw [Bool.eq_iff_iff]
    have e0 : lastV (vs.take 0) = 0 := rfl
    rw [e0]
    simp only [decide_eq_true_eq, Bool.or_eq_true, Bool.and_eq_true]
    omega
  rw [e1]
  simp only [Bool.or_assoc]
structure RightV (vs : List Vt) : Prop where
 each : ∀ v ∈ vs, 1 ≤ v.id ∧ inB v.p = true
 two : vs.Pairwise fun u v => u.id < v.id ∧ u.p ≠ v.p
theorem pairwise_get {α : Type} {R : α → α → Prop} (l : List α) : l.Pairwise R ↔ ∀ (i j : Nat) (u v : α), i < j → l[i]? = some u → l[j]? = some v → R u v := by
 rw [List.pairwise_iff_getElem]
 constructor
 ·intro h i j u v hij hu hv
  obtain ⟨hi, rfl⟩ := List.getElem?_eq_some_iff.1 hu
  obtain ⟨hj, rfl⟩ := List.getElem?_eq_some_iff.1 hv
  exact h i j hi hj hij
 ·intro h i j hi hj hij
  exact h i j _ _ hij (List.getElem?_eq_getElem hi) (List.getElem?_eq_getElem hj)
theorem rightV_iff (vs : List Vt) : (List.range vs.length).all (vOKr vs) = true ↔ RightV vs := by
 constructor
 ·intro h
  have key : ∀ j v, vs[j]? = some v → VOK vs j v := fun j v hv => (vok_iff hv).1 (List.all_eq_true.1 h j (List.mem_range.2 (List.getElem?_eq_some_iff.1 hv).1))
  refine ⟨fun v hv => ?_, ?_⟩
  ·obtain ⟨j, hj⟩ := List.getElem?_of_mem hv
   exact ⟨(key j v hj).pos, (key j v hj).inr⟩
  ·rw [pairwise_get]
   have lt : ∀ (j i : Nat) (u v : Vt), i < j → vs[i]? = some u → vs[j]? = some v → u.id < v.id := by
    intro j
    induction j with
    | zero => intro i u v h; omega
    | succ j ih =>
     intro i u v hij hu hv
     have hjl : j < vs.length := by have := (List.getElem?_eq_some_iff.1 hv).1; omega
     have hk : vs[j]? = some vs[j] := List.getElem?_eq_getElem hjl
     have hp : prevV vs (j + 1) = vs[j].id := by unfold prevV; rw [show j + 1 - 1 = j from rfl, hk]; rfl
     have h1 := (key (j + 1) v hv).prev (by omega)
     rw [hp] at h1
     by_cases e : i = j
     ·subst e
      rw [hk] at hu; injection hu with hu; rw [← hu]; exact h1
     ·have := ih i u _ (by omega) hu hk
      omega
   intro i j u v hij hu hv
   exact ⟨lt j i u v hij hu hv, (key j v hv).new i u hij hu⟩
 ·intro ⟨h1, h2⟩
  rw [pairwise_get] at h2
  rw [List.all_eq_true]
  intro j hj
  have hj := List.mem_range.1 hj
  have hv : vs[j]? = some vs[j] := List.getElem?_eq_getElem hj
  rw [vok_iff hv]
  have := h1 _ (List.mem_of_getElem? hv)
  refine ⟨this.1, this.2, fun h0 => ?_, fun i u hij hu => (h2 i j u _ hij hu hv).2⟩
  obtain ⟨k, rfl⟩ : ∃ k, j = k + 1 := ⟨j - 1, by omega⟩
  have hk : vs[k]? = some vs[k] := List.getElem?_eq_getElem (by omega)
  have hp : prevV vs (k + 1) = vs[k].id := by unfold prevV; rw [show k + 1 - 1 = k from rfl, hk]; rfl
  rw [hp]
  exact (h2 k (k + 1) _ _ (by omega) hk hv).1
theorem at_find (id : Int) : ∀ (l : List Vt) (m : Int → Option Pt), (l.Pairwise fun u v => u.id < v.id ∧ u.p ≠ v.p) → (l.foldl (fun m v => upd m v.id v.p) m) id = ((l.find? fun v => v.id == id).map (·.p)).or (m id)
 | [], m, _ => by simp
 | v :: l, m, h => by
  obtain ⟨h1, h2⟩ := List.pairwise_cons.1 h
  rw [List.foldl_cons, at_find id l _ h2]
  by_cases hv : v.id = id
  ·have hn : (l.find? fun u => u.id == id) = none := by
    rw [List.find?_eq_none]
    intro u hu
    have := (h1 u hu).1
    simp only [beq_iff_eq]; omega
   rw [hn, List.find?_cons_of_pos (by simpa using hv)]
   simp [upd, hv]
  ·rw [List.find?_cons_of_neg (by simpa using hv)]
   have : upd m v.id v.p id = m id := by unfold upd; rw [if_neg (fun e => hv e.symm)]
   rw [this]
theorem atM_find {vs : List Vt} (h : RightV vs) (id : Int) : atM vs id = (vs.find? fun v => v.id == id).map (·.p) := by
 have := at_find id vs (fun _ => none) h.two
 simpa [atM] using this
theorem atP_rpt {vs : List Vt} (h : RightV vs) (id : Int) : atP vs id = rpt vs id := by
 unfold atP rpt
 rw [atM_find h]
theorem atM_some {vs : List Vt} (h : RightV vs) (id : Int) : (atM vs id).isSome = (vs.find? fun v => v.id == id).isSome := by rw [atM_find h, Option.isSome_map]
theorem rpt_in {vs : List Vt} (h : RightV vs) {id : Int} (hs : (vs.find? fun v => v.id == id).isSome = true) : inB (rpt vs id) = true := by
 obtain ⟨v, hv⟩ := Option.isSome_iff_exists.1 hs
 unfold rpt
 rw [hv]
 exact (h.each v (List.mem_of_find?_eq_some hv)).2
theorem rpt_ne {vs : List Vt} (h : RightV vs) {a b : Int} (hab : a ≠ b) (ha : (vs.find? fun v => v.id == a).isSome = true) (hb : (vs.find? fun v => v.id == b).isSome = true) : rpt vs a ≠ rpt vs b := by
 obtain ⟨v, hv⟩ := Option.isSome_iff_exists.1 ha
 obtain ⟨w, hw⟩ := Option.isSome_iff_exists.1 hb
 unfold rpt
 rw [hv, hw]
 have h1 := List.find?_some hv
 have h2 := List.find?_some hw
 simp only [beq_iff_eq] at h1 h2
 obtain ⟨i, hi⟩ := List.getElem?_of_mem (List.mem_of_find?_eq_some hv)
 obtain ⟨j, hj⟩ := List.getElem?_of_mem (List.mem_of_find?_eq_some hw)
 have h2' := (pairwise_get vs).1 h.two
 intro e
 rcases Nat.lt_trichotomy i j with q | q | q
 ·exact (h2' i j v w q hi hj).2 e
 ·subst q
  rw [hi] at hj
  injection hj with hj
  rw [hj] at h1
  omega
 ·exact (h2' j i w v q hj hi).2 e.symm
theorem onB_R {p a b : Pt} (hp : inB p = true) (ha : inB a = true) (hb : inB b = true) : onB p a b = onR p a b := by
 unfold onB
 rw [hp, ha, hb, onL_onR]; rfl
theorem meetB_R {a b c d : Pt} (ha : inB a = true) (hb : inB b = true) (hc : inB c = true) (hd : inB d = true) (h1 : a ≠ b) (h2 : c ≠ d) : meetB a b c d = meetR a b c d := by
 unfold meetB
 rw [ha, hb, hc, hd, meet_eq a b c d h1 h2]
 simp [h1, h2]
theorem onWay_R {vs : List Vt} (h : RightV vs) {a b : Pt} (ha : inB a = true) (hb : inB b = true) : (vs.any fun v => onB v.p a b) = onWayR vs a b := by
 unfold onWayR
 rw [Bool.eq_iff_iff, List.any_eq_true, List.any_eq_true]
 constructor
 ·rintro ⟨v, hv, h1⟩; exact ⟨v, hv, by rw [← onB_R (h.each v hv).2 ha hb]; exact h1⟩
 ·rintro ⟨v, hv, h1⟩; exact ⟨v, hv, by rw [onB_R (h.each v hv).2 ha hb]; exact h1⟩
def EndsIn (vs : List Vt) (es : List Eg) : Prop := ∀ e ∈ es, e.a ≠ e.b ∧ (vs.find? fun v => v.id == e.a).isSome = true ∧ (vs.find? fun v => v.id == e.b).isSome = true
theorem cross_R {vs : List Vt} (h : RightV vs) {es : List Eg} (he : EndsIn vs es) {a b : Pt} (ha : inB a = true) (hb : inB b = true) (hab : a ≠ b) : crossB vs es a b = meetsR vs es a b := by
 unfold crossB meetsR
 rw [Bool.eq_iff_iff, List.any_eq_true, List.any_eq_true]
 have key : ∀ e ∈ es, meetB a b (atP vs e.a) (atP vs e.b) = meetR a b (rpt vs e.a) (rpt vs e.b) := by
  intro e hm
  obtain ⟨h1, h2, h3⟩ := he e hm
  rw [atP_rpt h, atP_rpt h]
  exact meetB_R ha hb (rpt_in h h2) (rpt_in h h3) hab (rpt_ne h h1 h2 h3)
 constructor
 ·rintro ⟨e, hv, h1⟩; exact ⟨e, hv, by rw [← key e hv]; exact h1⟩
 ·rintro ⟨e, hv, h1⟩; exact ⟨e, hv, by rw [key e hv]; exact h1⟩
structure EOK (vs : List Vt) (es : List Eg) (j : Nat) (e : Eg) : Prop where
 pos : 1 ≤ e.id
 prev : 0 < j → prevE es j < e.id
 ends : e.a ≠ e.b ∧ (vs.find? fun v => v.id == e.a).isSome = true ∧ (vs.find? fun v => v.id == e.b).isSome = true
 free : onWayR vs (rpt vs e.a) (rpt vs e.b) = false
 new : linksB (es.take j) e.a e.b = false
 apart : meetsR vs (es.take j) (rpt vs e.a) (rpt vs e.b) = false
theorem eok_iff {vs : List Vt} {es : List Eg} {j : Nat} {e : Eg} (h : es[j]? = some e) : eOKr vs es j = true ↔ EOK vs es j e := by
 unfold eOKr
 rw [h]
 simp only [Bool.not_eq_true', Bool.or_eq_false_iff, decide_eq_false_iff_not, Bool.and_eq_false_iff, Bool.not_eq_false', beq_eq_false_iff_ne]
 constructor
 ·intro ⟨h1, h2, h3, h4, h5, h6, h7, h8⟩
  refine ⟨by omega, fun hj => ?_, ⟨h3, h4, h5⟩, h7, h6, h8⟩
  rcases h2 with h2 | h2
  ·exact absurd hj h2
  ·omega
 ·intro ⟨h1, h2, ⟨h3, h4, h5⟩, h7, h6, h8⟩
  refine ⟨by omega, ?_, h3, h4, h5, h6, h7, h8⟩
  by_cases hj : 0 < j
  ·exact .inr (by have := h2 hj; omega)
  ·exact .inl hj
theorem ends_take {vs : List Vt} {es : List Eg} {j : Nat} (h : (List.range j).all (eOKr vs es) = true) : EndsIn vs (es.take j) := by
 intro e he
 obtain ⟨k, hk⟩ := List.getElem?_of_mem he
 rw [List.getElem?_take] at hk
 split at hk
 ·rename_i hkj
  exact ((eok_iff hk).1 (List.all_eq_true.1 h k (List.mem_range.2 hkj))).ends
 ·cases hk
theorem eOK_same {vs : List Vt} (hv : RightV vs) (es : List Eg) (j : Nat) (h : (List.range j).all (eOKr vs es) = true) : eOK vs es j = eOKr vs es j := by
 unfold eOK eOKr
 cases he : es[j]? with
 | none => rfl
 | some e =>
  have hjl : j < es.length := (List.getElem?_eq_some_iff.1 he).1
  simp only [pairM_any, atM_some hv, atP_rpt hv]
  have e1 : decide (e.id ≤ lastE (es.take j)) = (decide (e.id < 1) || (decide (0 < j) && decide (e.id ≤ prevE es j))) := by
   by_cases hj : 0 < j
   ·rw [lastE_prev hj (by omega)]
    obtain ⟨k, rfl⟩ : ∃ k, j = k + 1 := ⟨j - 1, by omega⟩
    have hk : es[k]? = some es[k] := List.getElem?_eq_getElem (by omega)
    have := (eok_iff hk).1 (List.all_eq_true.1 h k (List.mem_range.2 (by omega)))
    have hp : prevE es (k + 1) = es[k].id := by unfold prevE; rw [show k + 1 - 1 = k from rfl, hk]; rfl
    rw [hp, Bool.eq_iff_iff]
    have := this.pos
    simp only [decide_eq_true_eq, Bool.or_eq_true, Bool.and_eq_true]
    omega
   ·obtain rfl : j = 0 := by omega
    rw [Bool.eq_iff_iff]
    have e0 : lastE (es.take 0) = 0 := rfl
    rw [e0]
    simp only [decide_eq_true_eq, Bool.or_eq_true, Bool.and_eq_true]
    omega
  rw [e1]
  cases ha : (vs.find? fun v => v.id == e.a).isSome with
  | false => simp
  | true =>
   cases hb : (vs.find? fun v => v.id == e.b).isSome with
   | false => simp
   | true =>
    by_cases hab : e.a = e.b
    ·simp [hab]
    ·rw [onWay_R hv (rpt_in hv ha) (rpt_in hv hb), cross_R hv (ends_take h) (rpt_in hv ha) (rpt_in hv hb) (rpt_ne hv hab ha hb)]
     have : (e.a == e.b) = false := by simpa using hab
     rw [this]
     simp only [Bool.or_assoc, Bool.not_true, Bool.false_or]
theorem right_same (vs : List Vt) (es : List Eg) : rightB vs es = rightR vs es := by
 unfold rightB rightR
 rw [all_same vs.length fun j _ h => vOK_same vs j h]
 cases hv : (List.range vs.length).all (vOKr vs) with
 | false => simp
 | true => rw [all_same es.length fun j _ h => eOK_same ((rightV_iff vs).1 hv) es j h]
structure RightP (vs : List Vt) (es : List Eg) : Prop where
 few : vs.length ≤ 512 ∧ es.length ≤ 1024
 verts : RightV vs
 each : ∀ e ∈ es, 1 ≤ e.id ∧ (e.a ≠ e.b ∧ (vs.find? fun v => v.id == e.a).isSome = true ∧ (vs.find? fun v => v.id == e.b).isSome = true) ∧ onWayR vs (rpt vs e.a) (rpt vs e.b) = false
 two : es.Pairwise fun e f => e.id < f.id ∧ ((e.a == f.a && e.b == f.b) || (e.a == f.b && e.b == f.a)) = false ∧ meetR (rpt vs f.a) (rpt vs f.b) (rpt vs e.a) (rpt vs e.b) = false
theorem any_take {α : Type} {l : List α} {j : Nat} {f : α → Bool} : (l.take j).any f = false ↔ ∀ (i : Nat) (u : α), i < j → l[i]? = some u → f u = false := by
 rw [List.any_eq_false]
 constructor
 ·intro h i u hi hu
  have := h u (List.mem_of_getElem? (i := i) (by rw [List.getElem?_take, if_pos hi]; exact hu))
  simpa using this
 ·intro h u hu
  obtain ⟨i, hi⟩ := List.getElem?_of_mem hu
  rw [List.getElem?_take] at hi
  split at hi
  ·rename_i hij
   simpa using h i u hij hi
  ·cases hi
theorem right_iff (vs : List Vt) (es : List Eg) : rightR vs es = true ↔ RightP vs es := by
 unfold rightR
 simp only [Bool.and_eq_true, Bool.not_eq_true', Bool.or_eq_false_iff, decide_eq_false_iff_not, Nat.not_lt, rightV_iff]
 constructor
 ·intro ⟨h0, hv, h⟩
  have key : ∀ j e, es[j]? = some e → EOK vs es j e := fun j e he => (eok_iff he).1 (List.all_eq_true.1 h j (List.mem_range.2 (List.getElem?_eq_some_iff.1 he).1))
  refine ⟨h0, hv, fun e he => ?_, ?_⟩
  ·obtain ⟨j, hj⟩ := List.getElem?_of_mem he
   have := key j e hj
   exact ⟨this.pos, this.ends, this.free⟩
  ·rw [pairwise_get]
   have lt : ∀ (j i : Nat) (u v : Eg), i < j → es[i]? = some u → es[j]? = some v → u.id < v.id := by
    intro j
    induction j with
    | zero => intro i u v h; omega
    | succ j ih =>
     intro i u v hij hu hv
     have hjl : j < es.length := by have := (List.getElem?_eq_some_iff.1 hv).1; omega
     have hk : es[j]? = some es[j] := List.getElem?_eq_getElem hjl
     have hp : prevE es (j + 1) = es[j].id := by unfold prevE; rw [show j + 1 - 1 = j from rfl, hk]; rfl
     have h1 := (key (j + 1) v hv).prev (by omega)
     rw [hp] at h1
     by_cases e : i = j
     ·subst e
      rw [hk] at hu; injection hu with hu; rw [← hu]; exact h1
     ·have := ih i u _ (by omega) hu hk
      omega
   intro i j u v hij hu hv
   exact ⟨lt j i u v hij hu hv, any_take.1 (key j v hv).new i u hij hu, any_take.1 (key j v hv).apart i u hij hu⟩
 ·intro ⟨h0, hv, h1, h2⟩
  rw [pairwise_get] at h2
  refine ⟨h0, hv, ?_⟩
  rw [List.all_eq_true]
  intro j hj
  have hj := List.mem_range.1 hj
  have he : es[j]? = some es[j] := List.getElem?_eq_getElem hj
  rw [eok_iff he]
  have := h1 _ (List.mem_of_getElem? he)
  refine ⟨this.1, fun h0 => ?_, this.2.1, this.2.2, any_take.2 fun i u hij hu => (h2 i j u _ hij hu he).2.1, any_take.2 fun i u hij hu => (h2 i j u _ hij hu he).2.2⟩
  obtain ⟨k, rfl⟩ : ∃ k, j = k + 1 := ⟨j - 1, by omega⟩
  have hk : es[k]? = some es[k] := List.getElem?_eq_getElem (by omega)
  have hp : prevE es (k + 1) = es[k].id := by unfold prevE; rw [show k + 1 - 1 = k from rfl, hk]; rfl
  rw [hp]
  exact (h2 k (k + 1) _ _ (by omega) hk he).1
end Go.Proofs.YtlhmjhildlnokaaGreat
namespace Go.Proofs.YtlhmjhildlnokaaGreat
set_option linter.unusedVariables false
set_option linter.unusedSimpArgs false
open Go.RowKit Go.Sort Go.Shelf
theorem trap7x1 {P Q : Prop} (k : Q) (h : Hold Q → P := by (intro kk; guard_target = wpList _ _ _ (Oper.mk _ (.lookup _ _ _ _) _ _ _ _ :: _) _ _; (with_reducible refine BigFrame.wpList_want ?_ (fun K hK => ?_)); exact rfl; (refine o_segOk (m := ?_) rfl rfl rfl H ?_ (hK _ _ ?_); rotate_left 1; (repeat first | exact .head _ | apply List.Mem.tail)); clear hK K; simp only [Act.put, List.setIfInBounds_toArray, List.set_cons_succ, List.set_cons_zero]; exact kk.out)) : P := h ⟨k⟩
theorem trap7g3 {P Q : Prop} (k : Q) (h : Hold Q → P := by (intro kk; (first | (guard_target = wpList _ _ _ (Oper.mk _ (.load _ _) _ _ _ _ :: _) _ _; exact a15dc6b3 kk.out) | (guard_target = wpList _ _ _ (Oper.mk _ (.lookup _ _ _ _) _ _ _ _ :: _) _ _; exact trap7x1 kk.out)))) : P := h ⟨k⟩
theorem trap7g5 {P Q : Prop} (k : Q) (h : Hold Q → P := by (intro kk; (guard_target = wpList _ _ _ (Oper.mk _ (.store _ _ _) _ _ _ _ :: _) _ _; exact a181aa22 kk.out))) : P := h ⟨k⟩
theorem trap7g7 {P Q : Prop} (k : Q) (h : Hold Q → P := by (intro kk; (exact a9475ade kk.out))) : P := h ⟨k⟩
theorem trap7x8 {P Q : Prop} (k : Q) (h : Hold Q → P := by (intro kk; guard_target = wpList _ _ _ (Oper.mk _ (.lookup _ _ _ _) _ _ _ _ :: _) _ _; (with_reducible refine BigFrame.wpList_want ?_ (fun K hK => ?_)); exact rfl; (refine o_segOk (m := ?_) rfl rfl rfl H ?_ (hK _ _ ?_); rotate_left 1; (repeat first | exact .head _ | apply List.Mem.tail)); clear hK K; simp only [Act.put, List.setIfInBounds_toArray, List.set_cons_succ, List.set_cons_zero, X0, X1, X2, X3]; exact kk.out)) : P := h ⟨k⟩
theorem trap7g10 {P Q : Prop} (k : Q) (h : Hold Q → P := by (intro kk; (first | (guard_target = wpList _ _ _ (Oper.mk _ (.load _ _) _ _ _ _ :: _) _ _; exact a2601604 kk.out) | (guard_target = wpList _ _ _ (Oper.mk _ (.lookup _ _ _ _) _ _ _ _ :: _) _ _; exact trap7x8 kk.out)))) : P := h ⟨k⟩
theorem trap7g12 {P Q : Prop} (k : Q) (h : Hold Q → P := by (intro kk; (guard_target = wpList _ _ _ (Oper.mk _ (.store _ _ _) _ _ _ _ :: _) _ _; exact a218e51a kk.out))) : P := h ⟨k⟩
theorem trap7g14 {P Q : Prop} (k : Q) (h : Hold Q → P := by (intro kk; (exact a141a087 kk.out))) : P := h ⟨k⟩
structure IxS where
 N : List Nd
 P : List Pc
 S : List (Int × Sg)
 E : List (Pt × Bool)
def ix0 : IxS := ⟨[nd0], [pc0], [], []⟩
def PutR (X : IxS) (id : Int) (s : Sg) (Y : IxS) : Prop := ∃ all, CrossP X.P X.S s all ∧ Y.N = (roundsS id s all all.length ⟨X.N, X.P, 0, 0⟩).N ∧ Y.P = (roundsS id s all all.length ⟨X.N, X.P, 0, 0⟩).P ∧ Y.S = (id, s) :: X.S ∧ Y.E = (s.b, true) :: cutA ((s.a, true) :: cutA X.E s.a) s.b
inductive PutsR : List (Int × Sg) → IxS → Prop
 | nil : PutsR [] ix0
 | put {l : List (Int × Sg)} {X Y : IxS} {id : Int} {s : Sg} (h : PutsR l X) (hid : id ∉ l.map (·.1)) (hp : PutR X id s Y) : PutsR ((id, s) :: l) Y
theorem PutsR.S_ {l : List (Int × Sg)} {X : IxS} (h : PutsR l X) : X.S = l := by
 induction h with
 | nil => rfl
 | put h hid hp ih => obtain ⟨_, _, _, _, e, _⟩ := hp; rw [e, ih]
theorem PutsR.ixN {l : List (Int × Sg)} {X : IxS} (h : PutsR l X) : l.length ≤ 40 → IxN l.length X.N X.P := by
 induction h with
 | nil => intro _; exact ixN_0
 | put h hid hp ih =>
  intro hl
  simp only [List.length_cons] at hl ⊢
  obtain ⟨all, h1, h2, h3, _⟩ := hp
  rw [h2, h3]
  exact ixN_put (ih (by omega)) (by omega) h1
abbrev xL (bx ks ke cn cp dn dp : Nat) (X : IxS) (l : List Res) : List Res := xB bx ks ke X.N.length X.P.length cn cp dn dp :: nG dn X.N.length cn X.N :: pG dp X.P.length cp X.P :: mSeg ks X.S :: mEnd ke X.E :: l
theorem put2_any {B : Nat} {w0 w : World} {l : List Res} {bx ks ke cn cp dn dp : Nat} {X : IxS} {L : List (Int × Sg)} (id : Int) (s : Sg) (hL : PutsR L X) (hl : L.length < 40) (hid : id ∉ L.map (·.1)) (H : Own B w0 w (xL bx ks ke cn cp dn dp X l)) :
  Calls Tryz.prog 16 #[.pointer (some ⟨bx, 0, none⟩), .int .i64 id, sgV s] w fun e w' => e = .returned (.tuple #[]) ∧ ∃ Y dn' dp' cn' cp', PutsR ((id, s) :: L) Y ∧ Own B w0 w' (xL bx ks ke cn' cp' dn' dp' Y l) := by
 have I := hL.ixN (by omega)
 have h1 := I.pl
 have h2 := I.nl
 refine (put_any id s I.wf I.p0 I.n0 (by omega) (by omega) H).mono ?_
 rintro e w' ⟨rfl, all, Y, dn', dp', cn', cp', hc, rfl, H'⟩
 have hcut : cutA X.S id = X.S := cutA_none (by rw [hL.S_]; exact hid)
 rw [hcut] at H'
 exact ⟨rfl, ⟨_, _, (id, s) :: X.S, _⟩, dn', dp', cn', cp', .put hL hid ⟨all, hc, rfl, rfl, rfl, rfl⟩, H'⟩
def segI (vs : List Vt) (es : List Eg) (id : Int) : Sg := match es.find? (fun e => e.id == id) with | some e => segZ vs e.a e.b | none => zSg
def segsOf (vs : List Vt) (es : List Eg) (os : List Int) : List (Int × Sg) := os.map fun id => (id, segI vs es id)
theorem segs_keys (vs : List Vt) (es : List Eg) (os : List Int) : (segsOf vs es os).map (·.1) = os := by
 unfold segsOf; rw [List.map_map]
 exact List.map_id'' (fun _ => rfl) os
def OrdP (es : List Eg) (os : List Int) : Prop := os.length = es.length ∧ (∀ id ∈ os, (es.find? fun e => e.id == id).isSome = true) ∧ os.Nodup
instance (es : List Eg) (os : List Int) : Decidable (OrdP es os) := by unfold OrdP; exact inferInstance
def buildB (vs : List Vt) (es : List Eg) (os : List Int) : Bool := rightB vs es && decide (OrdP es os)
structure BldI (vs : List Vt) (es : List Eg) (os : List Int) (X : IxS) : Prop where
 puts : PutsR (segsOf vs es os).reverse X
 ids : ∀ id ∈ os, (es.find? fun e => e.id == id).isSome = true
 nodup : os.Nodup
theorem bld_get {vs : List Vt} {es : List Eg} {os : List Int} {X : IxS} (I : BldI vs es os X) (id : Int) : (getA X.S id).isSome = decide (id ∈ os) := by
 rw [I.puts.S_]
 have hk : ((segsOf vs es os).reverse.map (·.1)) = os.reverse := by rw [List.map_reverse, segs_keys]
 cases h : getA (segsOf vs es os).reverse id with
 | none =>
  have := getA_none.1 h
  rw [hk, List.mem_reverse] at this
  simp [this]
 | some v =>
  have : ¬ id ∉ (segsOf vs es os).reverse.map (·.1) := fun hn => by rw [getA_none.2 hn] at h; cases h
  rw [hk, List.mem_reverse] at this
  simp only [Option.isSome_some]
  exact (decide_eq_true (by simpa using this)).symm
theorem rightT_P {vs : List Vt} {es : List Eg} (h : rightB vs es = true) : RightP vs es := (right_iff vs es).1 (by rw [← right_same]; exact h)
theorem edge_find {es : List Eg} {id : Int} (h : (es.find? fun e => e.id == id).isSome = true) : ∃ x y, (es.find? fun e => e.id == id) = some ⟨id, x, y⟩ ∧ (⟨id, x, y⟩ : Eg) ∈ es := by
 obtain ⟨⟨i, x, y⟩, he⟩ := Option.isSome_iff_exists.1 h
 have h1 := List.find?_some he
 simp only [beq_iff_eq] at h1
 subst h1
 exact ⟨x, y, he, List.mem_of_find?_eq_some he⟩
theorem bld_step {vs : List Vt} {es : List Eg} {os : List Int} {j : Nat} {X Y : IxS} {id x y : Int} (I : BldI vs es (os.take j) X) (hj : os[j]? = some id) (hf : (es.find? fun e => e.id == id) = some ⟨id, x, y⟩) (hn : id ∉ os.take j) (hY : PutsR ((id, segZ vs x y) :: (segsOf vs es (os.take j)).reverse) Y) : BldI vs es (os.take (j + 1)) Y := by
 have e : os.take (j + 1) = os.take j ++ [id] := by rw [List.take_add_one, hj]; rfl
 rw [e]
 refine ⟨?_, ?_, ?_⟩
 ·have : segsOf vs es (os.take j ++ [id]) = segsOf vs es (os.take j) ++ [(id, segZ vs x y)] := by
   unfold segsOf
   rw [List.map_append, List.map_singleton]
   unfold segI
   rw [hf]
  rw [this, List.reverse_append]
  exact hY
 ·intro i hi
  rcases List.mem_append.1 hi with hi | hi
  ·exact I.ids i hi
  ·obtain rfl : i = id := by simpa using hi
   rw [hf]; rfl
 ·rw [List.nodup_append]
  refine ⟨I.nodup, by simp, ?_⟩
  intro a ha b hb hab
  obtain rfl : b = id := by simpa using hb
  rw [← hab] at hn
  exact hn ha
theorem bld_no {es : List Eg} {os : List Int} {j : Nat} {id : Int} (hj : os[j]? = some id) (h : (es.find? fun e => e.id == id).isSome = false ∨ id ∈ os.take j) : ¬ OrdP es os := by
 rintro ⟨_, h1, h2⟩
 rcases h with h | h
 ·rw [h1 id (List.mem_of_getElem? hj)] at h; cases h
 ·obtain ⟨i, hi⟩ := List.getElem?_of_mem h
  have hil : i < j := by
   have := (List.getElem?_eq_some_iff.1 hi).1
   rw [List.length_take] at this; omega
  rw [List.getElem?_take_of_lt hil] at hi
  have := (List.getElem?_inj (i := i) (j := j) (List.getElem?_eq_some_iff.1 hi).1 h2).1 (by rw [hi, hj])
  omega
def oR (os : List Int) : List Value := os.map (Value.int .i64)
theorem oR_get {os : List Int} {j : Nat} {x : Int} (h : os[j]? = some x) : (oR os)[j]? = some (.int .i64 x) := by simp [oR, h]
set_option maxRecDepth 100000 in
set_option maxHeartbeats 16000000 in
theorem build_any (vs : List Vt) (es : List Eg) (os : List Int) (A A2 A3 : Option Addr) (n m q : Nat) (c c2 c3 : Nat) (F : Nat → Prop) (w : World) (hn : n = vs.length) (hm : m = es.length) (hq : q = os.length) (hs : Sl F w A (vR vs)) (hs2 : Sl F w A2 (eR es)) (hs3 : Sl F w A3 (oR os)) (hF : ∀ k, F k → k < w.heap.size) (hl : n ≤ 1000000) (hl2 : m ≤ 40) (hc2 : m ≤ c2) (hcc : c2 ≤ maxLen) :
  Calls Tryz.prog 6 #[.agg #[.slice A n c, .slice A2 m c2], .slice A3 q c3] w fun e w' =>
   (buildB vs es os = false ∧ e = .returned (.tuple #[.pointer none, .int .i64 1]) ∧ Below w.heap.size w w') ∨
   (buildB vs es os = true ∧ ∃ X bx ks ke cn cp dn dp, e = .returned (.tuple #[.pointer (some ⟨bx, 0, none⟩), .int .i64 0]) ∧ BldI vs es os X ∧ Own w.heap.size w w' (xL bx ks ke cn cp dn dp X [])) := by
 obtain ⟨b0, o0, H1, f0⟩ := (Own.start w).addSl (hs.ro (by rfl))
 obtain ⟨b9, o9, H2, f9⟩ := H1.addSl (hs2.ro (by rfl))
 obtain ⟨b8, o8, H, f8⟩ := H2.addSl (hs3.ro (by rfl))
 clear hs hs2 hs3 H1 H2
 have HN := Lib.hid hn
 have HM := Lib.hid hm
 have HQ := Lib.hid hq
 have h1 := fun F w a b => right_any vs es A A2 n m c c2 F w hn hm a b hl (by omega) hc2 hcc
 have h2 := fun F w a id => edge_any es A2 A m n c2 c F id w hm a (by omega)
 have h3 := fun F w a x y i => segOf_any vs A A2 n m c c2 F i x y w hn a hl
 cases hr : rightB vs es
 ·have hbb : buildB vs es os = false := by unfold buildB; rw [hr]; rfl
  rw [hr] at h1
  clear h2 h3 hn hm hq
  go_enter Tryz.func6, Tryz.ntmps6
  have tk0 : True := trivial
  go_wp2_with (first
   | (go_at_call 13; (with_reducible refine (h1 _ _ (aD f0) (aD f9)).mono ?_); rintro e w3 ⟨rfl, hb⟩; replace H := H.ext hb; clear hb; dsimp only)
   | (guard_target = wpList _ _ _ (_ :: _) _ _; (first | (refine a15dc6b3 ?_) | (refine a9475ade ?_; intro b2; clear H; (try clear w2); intro w2 H; (clear tk0; rename Nat => b1)))))
  go_ret2
  exact .inl ⟨hbb, rfl, H.below⟩
 have hends : ∀ i x y, (⟨i, x, y⟩ : Eg) ∈ es → (vs.find? fun v => v.id == x).isSome = true ∧ (vs.find? fun v => v.id == y).isSome = true := fun i x y h => ((rightT_P hr).each _ h).2.1.2
 rw [hr] at h1
 have HE := Lib.hid hends
 have HR := Lib.hid hr
 clear hends hr hn hm hq
 by_cases hql : q = m
 ·subst hql
  have hlen : os.length = es.length := by rw [← HQ.out, ← HM.out]
  have HLEN := Lib.hid hlen
  clear hlen
  have hqq : ((q : Int) != (q : Int)) = false := by simp
  go_enter Tryz.func6, Tryz.ntmps6
  have tk0 : True := trivial
  have X0 := @hqq
  have X1 := @zz
  have X2 := @zz
  have X3 := @zz
  go_wp2_with (first
   | (go_at_call 13; (with_reducible refine (h1 _ _ (aD f0) (aD f9)).mono ?_); rintro e w3 ⟨rfl, hb⟩; replace H := H.ext hb; clear hb; dsimp only)
   | (go_at_call 14; (with_reducible refine (fresh_any _).mono ?_); rintro e w3 ⟨bx, ks, ke, cn, cp, dn, dp, rfl, H2⟩; replace H := H.join H2 rfl; clear H2; simp only [List.cons_append, List.nil_append] at H; dsimp only)
   | (guard_target = wpList _ _ _ (_ :: _) _ _; (first | (refine a2601604 ?_) | (refine a141a087 ?_; intro b2; clear H; (try clear w2); intro w2 H; (clear tk0; rename Nat => b1)))))
  go_loopg [27] q (fun k i wr => k ≤ q ∧ i = .int .i64 ((q - k : Nat) : Int) ∧ ∃ X dn dp cn cp, BldI vs es (os.take (q - k)) X ∧ Own w.heap.size w wr (xL bx ks ke cn cp dn dp X [.cells b1 [.slice A n c, .slice A2 q c2], .rd A3 b8 o8 (oR os), .rd A2 b9 o9 (eR es), .rd A b0 o0 (vR vs)]))
  case atStart =>
   refine ⟨Nat.le_refl _, by simp, ix0, dn, dp, cn, cp, ?_, H⟩
   rw [Nat.sub_self, List.take_zero]
   exact ⟨.nil, by simp, .nil⟩
  case round =>
   clear H
   obtain ⟨hk, rfl, X, dn, dp, cn, cp, hI, H⟩ := hrel
   have HI := Lib.hid hI
   by_cases hlt : 0 < gk
   ·obtain ⟨j, hj⟩ : ∃ j, q - gk = j := ⟨_, rfl⟩
    have hjl : j < q := by omega
    obtain ⟨id, he⟩ : ∃ x, os[j]? = some x := ⟨_, List.getElem?_eq_getElem (by have := HQ.out; omega)⟩
    have he2 := oR_get he
    have hgs := bld_get hI id
    rw [hj] at hgs ⊢
    obtain rfl := H.rdAddr m6 (Nat.lt_of_le_of_lt (Nat.zero_le _) (List.getElem?_eq_some_iff.1 he2).1)
    have hp := at_rd (A := some ⟨b8, o8, none⟩) (b := b8) (off := o8) he2
    have h4 := fun F w a => h2 F w a id
    obtain ⟨o, ho⟩ : ∃ o, (es.find? fun e => e.id == id) = o := ⟨_, rfl⟩
    rw [ho] at h4
    have HOS := Lib.hid he
    have HJ := Lib.hid hj
    clear hI he he2 hj
    cases o with
    | none =>
     have hno := bld_no HOS.out (.inl (by rw [ho]; rfl))
     have hbb : buildB vs es os = false := by unfold buildB; rw [decide_eq_false hno, Bool.and_false]
     clear ho hgs hno
     simp only [egV, Option.isSome_none] at h4
     have tk0 : True := trivial
     have tk1 : True := trivial
     go_wp2_with (first
      | (go_at_call 15; (with_reducible refine (h4 _ _ (aD f9)).mono ?_); rintro e w3 ⟨rfl, hb⟩; replace H := H.ext hb; clear hb; dsimp only)
      | (guard_target = wpList _ _ _ (_ :: _) _ _; (first | (refine trap7g3 ?_) | (refine trap7g5 ?_; clear H; (try clear w2); intro w2 H) | (refine trap7g7 ?_; intro b2; clear H; (try clear w2); intro w2 H; (first | (clear tk0; rename Nat => b2) | (clear tk1; rename Nat => b3))))))
     go_ret2
     exact .inl ⟨hbb, rfl, H.below⟩
    | some e =>
     obtain ⟨x, y, ho2, hmem⟩ := edge_find (es := es) (id := id) (by rw [ho]; rfl)
     obtain rfl : e = ⟨id, x, y⟩ := by rw [ho] at ho2; injection ho2
     have h5 := fun F w a => h3 F w a x y id (HE.out id x y hmem).1 (HE.out id x y hmem).2
     simp only [egV, Option.isSome_some] at h4
     by_cases ht : id ∈ os.take j
     ·have hno := bld_no (es := es) HOS.out (.inr ht)
      have hbb : buildB vs es os = false := by unfold buildB; rw [decide_eq_false hno, Bool.and_false]
      rw [decide_eq_true ht] at hgs
      obtain ⟨s0, hs0⟩ := Option.isSome_iff_exists.1 hgs
      clear ho ho2 hgs hno ht h5 hmem
      have tk0 : True := trivial
      have tk1 : True := trivial
      have X0 := @hs0
      have X1 := @zz
      have X2 := @zz
      have X3 := @zz
      go_wp2_with (first
       | (go_at_call 15; (with_reducible refine (h4 _ _ (aD f9)).mono ?_); rintro e w3 ⟨rfl, hb⟩; replace H := H.ext hb; clear hb; dsimp only)
       | (guard_target = wpList _ _ _ (_ :: _) _ _; (first | (refine trap7g10 ?_) | (refine trap7g12 ?_; clear H; (try clear w2); intro w2 H) | (refine trap7g14 ?_; intro b2; clear H; (try clear w2); intro w2 H; (first | (clear tk0; rename Nat => b2) | (clear tk1; rename Nat => b3))))))
      go_ret2
      exact .inl ⟨hbb, rfl, H.below⟩
     ·rw [decide_eq_false ht] at hgs
      have hs0 : getA X.S id = none := by
       cases e : getA X.S id
       ·rfl
       ·rw [e] at hgs; cases hgs
      have hl40 : ((segsOf vs es (os.take j)).reverse).length < 40 := by
       rw [List.length_reverse]; unfold segsOf; rw [List.length_map, List.length_take]
       have := HQ.out; omega
      have hkey : id ∉ ((segsOf vs es (os.take j)).reverse).map (·.1) := by rw [List.map_reverse, segs_keys, List.mem_reverse]; exact ht
      have hJJ := HJ.out
      rw [hJJ] at HI
      have hput := fun {l : List Res} w4 H => put2_any (B := w.heap.size) (w0 := w) (w := w4) (l := l) (bx := bx) (ks := ks) (ke := ke) (cn := cn) (cp := cp) (dn := dn) (dp := dp) id (segZ vs x y) HI.out.puts hl40 hkey H
      have HT := Lib.hid ht
      have HO2 := Lib.hid ho2
      clear ho ho2 hgs ht hmem hl40 hkey hJJ
      have tk0 : True := trivial
      have tk1 : True := trivial
      have X0 := @hs0
      have X1 := @zz
      have X2 := @zz
      have X3 := @zz
      go_wp2_with (first
       | (go_at_call 15; (with_reducible refine (h4 _ _ (aD f9)).mono ?_); rintro e w3 ⟨rfl, hb⟩; replace H := H.ext hb; clear hb; dsimp only)
       | (go_at_call 17; (with_reducible refine (h5 _ _ (aD f0)).mono ?_); rintro e w3 ⟨rfl, hb⟩; replace H := H.ext hb; clear hb; dsimp only)
       | (go_at_call 16; replace H:Own _ _ _ (mEnd _ _ :: _) := aF; replace H:Own _ _ _ (mSeg _ _ :: _) := aF; replace H:Own _ _ _ (Res.grow 80 _ _ _ _ :: _) := aF; replace H:Own _ _ _ (Res.grow 75 _ _ _ _ :: _) := aF; replace H:Own _ _ _ (Res.cells bx _ :: _) := aF; (with_reducible refine (hput _ H).mono ?_); rintro e w3 ⟨rfl, Y, dn2, dp2, cn2, cp2, hY, H2⟩; replace H := H2; clear H2; have HY := Lib.hid hY; clear hY; dsimp only)
       | (guard_target = wpList _ _ _ (_ :: _) _ _; (first | (refine trap7g10 ?_) | (refine trap7g12 ?_; clear H; (try clear w2); intro w2 H) | (refine trap7g14 ?_; intro b2; clear H; (try clear w2); intro w2 H; (first | (clear tk0; rename Nat => b2) | (clear tk1; rename Nat => b3))))))
      go_roundg (gk - 1)
      case rel =>
       refine ⟨by omega, by have := HJ.out; congr 1; omega, Y, dn2, dp2, cn2, cp2, ?_, (aW H)⟩
       rw [show q - (gk - 1) = j + 1 by have := HJ.out; omega]
       exact bld_step HI.out HOS.out HO2.out HT.out HY.out
      case measure => omega
   ·obtain rfl : gk = 0 := by omega
    rw [Nat.sub_zero, List.take_of_length_le (by have := HQ.out; omega)] at hI
    have hbb : buildB vs es os = true := by unfold buildB; rw [HR.out, decide_eq_true ⟨HLEN.out, hI.ids, hI.nodup⟩]; rfl
    have HI2 := Lib.hid hI
    clear hI HI
    go_wp2_with (first | fail)
    go_ret2
    exact .inr ⟨hbb, X, bx, ks, ke, cn, cp, dn, dp, rfl, HI2.out, (aW H)⟩
 ·have hno : ¬ OrdP es os := fun h => hql (by rw [HQ.out, HM.out]; exact h.1)
  have hbb : buildB vs es os = false := by unfold buildB; rw [decide_eq_false hno, Bool.and_false]
  have hqq : ((q : Int) != (m : Int)) = true := by simp; omega
  clear hno
  go_enter Tryz.func6, Tryz.ntmps6
  have tk0 : True := trivial
  have X0 := @hqq
  have X1 := @zz
  have X2 := @zz
  have X3 := @zz
  go_wp2_with (first
   | (go_at_call 13; (with_reducible refine (h1 _ _ (aD f0) (aD f9)).mono ?_); rintro e w3 ⟨rfl, hb⟩; replace H := H.ext hb; clear hb; dsimp only)
   | (guard_target = wpList _ _ _ (_ :: _) _ _; (first | (refine a2601604 ?_) | (refine a141a087 ?_; intro b2; clear H; (try clear w2); intro w2 H; (clear tk0; rename Nat => b1)))))
  go_ret2
  exact .inl ⟨hbb, rfl, H.below⟩
theorem setT_at {P : List Pc} {i : Nat} {p : Pc} (r : Pt) (h : P[i]? = some p) : (setR P i r)[i]? = some { p with t := { p.t with hr := true, r := r } } := by
 unfold setR; rw [h]
 simp only
 rw [List.getElem?_set]; simp [(List.getElem?_eq_some_iff.1 h).1]
theorem setG_at {P : List Pc} {i : Nat} {p : Pc} (h : P[i]? = some p) : (setG P i)[i]? = some { p with g := true } := by
 unfold setG; rw [h]
 simp only
 rw [List.getElem?_set]; simp [(List.getElem?_eq_some_iff.1 h).1]
def QLine (N : List Nd) (id : Int) (u d : Nat) (q : Nd) : Prop := q = ⟨2, id, ⟨0, 0⟩, (u : Int), (d : Int)⟩
def QEnd (N : List Nd) (P : List Pc) (N0 : Nat) (ce : Bool) (t : Tz) (b : Pt) (i : Nat) (q1 q : Nd) : Prop :=
 if ce then ∃ c e : Nat, N0 ≤ c ∧ N0 ≤ e ∧ N[c]? = some q1 ∧ N[e]? = some (lfN i) ∧ P[i]? = some ⟨{ t with hl := true, l := b }, (e : Int), false⟩ ∧ q = ⟨1, 0, b, (c : Int), (e : Int)⟩ else q = q1
def QBeg (N : List Nd) (P : List Pc) (N0 : Nat) (cb : Bool) (t : Tz) (a : Pt) (i : Nat) (q1 q : Nd) : Prop :=
 if cb then ∃ c e : Nat, N0 ≤ c ∧ N0 ≤ e ∧ N[c]? = some q1 ∧ N[e]? = some (lfN i) ∧ P[i]? = some ⟨{ t with hr := true, r := a }, (e : Int), false⟩ ∧ q = ⟨1, 0, a, (e : Int), (c : Int)⟩ else q = q1
structure RV (id : Int) (s : Sg) (f la : Bool) (n : Nat) (X Y : PSt) (p : Pc) (l r : Pt) (cu cd ce cb : Bool) : Prop where
 pl : Y.P.length = X.P.length + cu.toNat + cd.toNat + ce.toNat + cb.toNat
 old : ∀ i, i < X.P.length → i ≠ n → (cu = true ∨ i ≠ idN X.N X.u) → (cd = true ∨ i ≠ idN X.N X.d) → Y.P[i]? = X.P[i]?
 gone : Y.P[n]? = some { p with g := true }
 nl : X.N.length ≤ Y.N.length
 oldN : ∀ i, i < X.N.length → i ≠ p.n.toNat → Y.N[i]? = X.N[i]?
 u1 : cu = true → Y.u = X.N.length ∧ Y.N[X.N.length]? = some (lfN X.P.length) ∧ Y.P[X.P.length]? = some ⟨⟨p.t.top, id, true, true, l, r⟩, (X.N.length : Int), false⟩
 u0 : cu = false → Y.u = X.u ∧ ∀ pu, X.P[idN X.N X.u]? = some pu → Y.P[idN X.N X.u]? = some { pu with t := { pu.t with hr := true, r := r } }
 d1 : cd = true → Y.d = X.N.length + cu.toNat ∧ Y.N[X.N.length + cu.toNat]? = some (lfN (X.P.length + cu.toNat)) ∧ Y.P[X.P.length + cu.toNat]? = some ⟨⟨id, p.t.bot, true, true, l, r⟩, ((X.N.length + cu.toNat : Nat) : Int), false⟩
 d0 : cd = false → Y.d = X.d ∧ ∀ pu, X.P[idN X.N X.d]? = some pu → Y.P[idN X.N X.d]? = some { pu with t := { pu.t with hr := true, r := r } }
 q : ∃ q1 q2 q3, QLine Y.N id Y.u Y.d q1 ∧ QEnd Y.N Y.P X.N.length ce p.t s.b (X.P.length + cu.toNat + cd.toNat) q1 q2 ∧ QBeg Y.N Y.P X.N.length cb p.t s.a (X.P.length + cu.toNat + cd.toNat + ce.toNat) q2 q3 ∧ Y.N[p.n.toNat]? = some q3
theorem set_ne {α : Type} {l : List α} {i j : Nat} {a : α} (h : j ≠ i) : (l.set i a)[j]? = l[j]? := by rw [List.getElem?_set]; simp [Ne.symm h]
theorem set_at {α : Type} {l : List α} {i : Nat} {a : α} (h : i < l.length) : (l.set i a)[i]? = some a := by rw [List.getElem?_set]; simp [h]
theorem app_lt {α : Type} {l m : List α} {i : Nat} (h : i < l.length) : (l ++ m)[i]? = l[i]? := List.getElem?_append_left h
theorem app_at {α : Type} {l : List α} {i : Nat} {a : α} {m : List α} (h : i = l.length) : (l ++ a :: m)[i]? = some a := by subst h; simp
theorem roundS_view {N0 : Nat} {Pa : List Pc} {rest : List Nat} {n : Nat} {id : Int} {s : Sg} {f la : Bool} {X : PSt} {p : Pc} (I : PInv N0 Pa (n :: rest) X) (hu : f = false → LeafIn N0 Pa.length X X.u ∧ LeafIn N0 Pa.length X X.d)
  (hp : Pa[n]? = some p) (hud : f = false → idN X.N X.u ≠ idN X.N X.d) :
  RV id s f la n X (roundS id s f la n X) p (if f then s.a else p.t.l) (if la then s.b else p.t.r) (f || decide (0 < turnB s.a s.b p.t.l)) (f || decide (turnB s.a s.b p.t.l < 0)) (la && (!p.t.hr || lessB s.b p.t.r)) (f && (!p.t.hl || lessB p.t.l s.a)) := by
 obtain ⟨hnl, hnp⟩ := I.rest n (by simp)
 have hXn : X.P[n]? = some p := hnp.trans hp
 have hpn := I.nodes p (List.mem_of_getElem? hp)
 have hN0 := I.nN
 have hP0 := I.nP
 unfold roundS
 simp only [hXn, Option.getD_some]
 obtain ⟨N, P, u, d⟩ := X
 simp only at hXn hN0 hP0 hud
 have hcu : f = true → (f || decide (0 < turnB s.a s.b p.t.l)) = true := by rintro rfl; rfl
 have hcd : f = true → (f || decide (turnB s.a s.b p.t.l < 0)) = true := by rintro rfl; rfl
 generalize (f || decide (0 < turnB s.a s.b p.t.l)) = cu at *
 generalize (f || decide (turnB s.a s.b p.t.l < 0)) = cd at *
 generalize (la && (!p.t.hr || lessB s.b p.t.r)) = ce at *
 generalize (f && (!p.t.hl || lessB p.t.l s.a)) = cb at *
 generalize (if f then s.a else p.t.l) = l
 generalize (if la then s.b else p.t.r) = r
 have hu0 : cu = false → LeafIn N0 Pa.length ⟨N, P, u, d⟩ u := fun h => (hu (by cases f; rfl; rw [hcu rfl] at h; cases h)).1
 have hd0 : cd = false → LeafIn N0 Pa.length ⟨N, P, u, d⟩ d := fun h => (hu (by cases f; rfl; rw [hcd rfl] at h; cases h)).2
 have hud2 : cu = false → cd = false → idN N u ≠ idN N d := fun h _ => hud (by cases f; rfl; rw [hcu rfl] at h; cases h)
 clear hu hcu hcd hud
 obtain ⟨N2, hN2⟩ : ∃ N2, N2 = (loS cd ⟨id, p.t.bot, true, false, l, ⟨0, 0⟩⟩ (upS cu ⟨p.t.top, id, true, false, l, ⟨0, 0⟩⟩ ⟨N, P, u, d⟩)) := ⟨_, rfl⟩
 rw [← hN2]
 have e1 : N2.P = P ++ ((if cu then [⟨⟨p.t.top, id, true, false, l, ⟨0, 0⟩⟩, (N.length : Int), false⟩] else []) ++ (if cd then [⟨⟨id, p.t.bot, true, false, l, ⟨0, 0⟩⟩, ((N.length + cu.toNat : Nat) : Int), false⟩] else [])) := by
  rw [hN2]; cases cu <;> cases cd <;> simp [upS, loS]
 have e2 : N2.N = N ++ ((if cu then [lfN P.length] else []) ++ (if cd then [lfN (P.length + cu.toNat)] else [])) := by
  rw [hN2]; cases cu <;> cases cd <;> simp [upS, loS]
 have e3 : N2.u = if cu then N.length else u := by rw [hN2]; cases cu <;> cases cd <;> simp [upS, loS]
 have e4 : N2.d = if cd then N.length + cu.toNat else d := by rw [hN2]; cases cu <;> cases cd <;> simp [upS, loS]
 have hPl : N2.P.length = P.length + cu.toNat + cd.toNat := by rw [e1]; cases cu <;> cases cd <;> simp
 have hNl : N2.N.length = N.length + cu.toNat + cd.toNat := by rw [e2]; cases cu <;> cases cd <;> simp
 have iu : idN N2.N N2.u = if cu then P.length else idN N u := by
  cases cu
  ·have := (hu0 rfl).lt
   simp only [e3, e2, idN]
   simp only [Bool.false_eq_true, if_false]
   rw [app_lt this]
  ·simp only [e3, e2, idN, if_true]
   rw [List.cons_append, app_at rfl]; simp [lfN]
 have idx : idN N2.N N2.d = if cd then P.length + cu.toNat else idN N d := by
  cases cd
  ·have := (hd0 rfl).lt
   simp only [e4, e2, idN]
   simp only [Bool.false_eq_true, if_false, List.append_nil]
   rw [app_lt this]
  ·simp only [e4, e2, idN, if_true]
   rw [← List.append_assoc, app_at (by cases cu <;> simp)]; simp [lfN]; omega
 have hnP : n < P.length := Nat.lt_of_lt_of_le hnl hP0
 have pu0 : cu = false → idN N u < P.length ∧ Pa.length ≤ idN N u := fun h => by
  obtain ⟨q, _, h2, h3⟩ := (hu0 h).id
  exact ⟨(List.getElem?_eq_some_iff.1 h2).1, h3⟩
 have pd0 : cd = false → idN N d < P.length ∧ Pa.length ≤ idN N d := fun h => by
  obtain ⟨q, _, h2, h3⟩ := (hd0 h).id
  exact ⟨(List.getElem?_eq_some_iff.1 h2).1, h3⟩
 have nu : idN N2.N N2.u ≠ n := by rw [iu]; cases cu; (· have := pu0 rfl; simp; omega); (· simp; omega)
 have nd : idN N2.N N2.d ≠ n := by rw [idx]; cases cd; (· have := pd0 rfl; simp; omega); (· simp; omega)
 have nud : idN N2.N N2.u ≠ idN N2.N N2.d := by
  rw [iu, idx]
  cases cu <;> cases cd <;> simp
  ·exact hud2 rfl rfl
  ·have := pu0 rfl; omega
  ·have := pd0 rfl; omega
 obtain ⟨P3, hP3⟩ : ∃ P3, P3 = setG (setR (setR N2.P (idN N2.N N2.u) r) (idN N2.N N2.d) r) n := ⟨_, rfl⟩
 have l3 : P3.length = N2.P.length := by rw [hP3, setG_len, setR_len, setR_len]
 have g0 : ∀ i, i ≠ n → i ≠ idN N2.N N2.u → i ≠ idN N2.N N2.d → P3[i]? = N2.P[i]? := fun i h1 h2 h3 => by rw [hP3, setG_ne h1, setR_ne _ h3, setR_ne _ h2]
 have g1 : P3[n]? = some { p with g := true } := by
  rw [hP3]
  refine setG_at ?_
  rw [setR_ne _ nd.symm, setR_ne _ nu.symm, e1, app_lt hnP]; exact hXn
 have g2 : ∀ q, N2.P[idN N2.N N2.u]? = some q → P3[idN N2.N N2.u]? = some { q with t := { q.t with hr := true, r := r } } := fun q h => by
  rw [hP3, setG_ne nu, setR_ne _ nud]; exact setT_at _ h
 have g3 : ∀ q, N2.P[idN N2.N N2.d]? = some q → P3[idN N2.N N2.d]? = some { q with t := { q.t with hr := true, r := r } } := fun q h => by
  rw [hP3, setG_ne nd]
  refine setT_at _ ?_
  rw [setR_ne _ nud.symm]; exact h
 have eX3 : rtS r n N2 = ⟨N2.N, P3, N2.u, N2.d⟩ := by unfold rtS; rw [hP3]
 rw [eX3]
 obtain ⟨X4, hX4⟩ : ∃ X4, X4 = endS ce { p.t with hl := true, l := s.b } s.b (⟨N2.N, P3, N2.u, N2.d⟩, ⟨2, id, ⟨0, 0⟩, (N2.u : Int), (N2.d : Int)⟩) := ⟨_, rfl⟩
 obtain ⟨X5, hX5⟩ : ∃ X5, X5 = begS cb { p.t with hr := true, r := s.a } s.a X4 := ⟨_, rfl⟩
 rw [← hX4, ← hX5]
 have f1 : X5.1.u = N2.u ∧ X5.1.d = N2.d := by rw [hX5, hX4]; cases ce <;> cases cb <;> exact ⟨rfl, rfl⟩
 have k4 : Kp ⟨N2.N, P3, N2.u, N2.d⟩ X4.1 := by rw [hX4]; exact endS_kp _ _ _ (⟨N2.N, P3, N2.u, N2.d⟩, _)
 have k5 : Kp X4.1 X5.1 := by rw [hX5]; exact begS_kp _ _ _ _
 have k45 := k4.trans k5
 have l4 : X4.1.P.length = P3.length + ce.toNat := by rw [hX4]; cases ce <;> simp [endS]
 have l5 : X5.1.P.length = P3.length + ce.toNat + cb.toNat := by rw [hX5, ← l4]; cases cb <;> simp [begS]
 have keepP : ∀ i q, P3[i]? = some q → X5.1.P[i]? = some q := fun i q h => (k45.p i (List.getElem?_eq_some_iff.1 h).1).trans h
 have keepN : ∀ i q, i ≠ p.n.toNat → N2.N[i]? = some q → (nodeS p.n.toNat X5).N[i]? = some q := fun i q h1 h => by
  show (X5.1.N.set _ _)[i]? = _
  rw [set_ne h1]; exact (k45.n i (List.getElem?_eq_some_iff.1 h).1).trans h
 have hpn2 : p.n.toNat < N0 := by omega
 have h45 := k45.nl
 simp only at h45
 refine ⟨?_, fun i hi h1 h2 h3 => ?_, keepP _ _ g1, ?_, fun i hi h1 => ?_, ?_, ?_, ?_, ?_, ?_⟩
 ·show X5.1.P.length = P.length + _ + _ + _ + _
  omega
 ·have hh : P3[i]? = P[i]? := by
   rw [g0 i h1 ?_ ?_, e1, app_lt hi]
   ·rw [iu]; cases cu <;> simp at h2 ⊢; · exact h2
    ·have : i < P.length := hi; omega
   ·rw [idx]; cases cd <;> simp at h3 ⊢; · exact h3
    ·have : i < P.length := hi; omega
  show X5.1.P[i]? = P[i]?
  have hi' : i < P.length := hi
  rw [k45.p i (by show i < P3.length; omega)]; exact hh
 ·show N.length ≤ (X5.1.N.set _ _).length
  rw [List.length_set]; omega
 ·show (X5.1.N.set _ _)[i]? = N[i]?
  have hi' : i < N.length := hi
  rw [set_ne h1, k45.n i (by show i < N2.N.length; omega)]
  show N2.N[i]? = _
  rw [e2, app_lt hi']
 ·intro hc
  subst hc
  refine ⟨?_, ?_, ?_⟩
  ·show X5.1.u = _
   rw [f1.1, e3]; rfl
  ·refine keepN _ _ (by show N.length ≠ _; omega) ?_
   rw [e2, if_pos rfl, List.cons_append]
   exact app_at rfl
  ·have := g2 ⟨⟨p.t.top, id, true, false, l, ⟨0, 0⟩⟩, (N.length : Int), false⟩ (by rw [iu, if_pos rfl, e1, if_pos rfl, List.cons_append]; exact app_at rfl)
   rw [iu, if_pos rfl] at this
   exact keepP _ _ this
 ·intro hc
  subst hc
  refine ⟨?_, fun q hq => ?_⟩
  ·show X5.1.u = _
   rw [f1.1, e3]; rfl
  ·have h0 := (pu0 rfl).1
   have hq' : P[idN N u]? = some q := hq
   have := g2 q (by rw [iu, if_neg (by simp), e1, app_lt h0]; exact hq')
   rw [iu, if_neg (by simp)] at this
   exact keepP _ _ this
 ·intro hc
  subst hc
  refine ⟨?_, ?_, ?_⟩
  ·show X5.1.d = _
   rw [f1.2, e4]; rfl
  ·refine keepN _ _ (by show N.length + _ ≠ _; omega) ?_
   rw [e2, if_pos rfl, ← List.append_assoc]
   exact app_at (by cases cu <;> simp)
  ·have := g3 ⟨⟨id, p.t.bot, true, false, l, ⟨0, 0⟩⟩, ((N.length + cu.toNat : Nat) : Int), false⟩ (by rw [idx, if_pos rfl, e1, if_pos rfl, ← List.append_assoc]; exact app_at (by cases cu <;> simp))
   rw [idx, if_pos rfl] at this
   exact keepP _ _ this
 ·intro hc
  subst hc
  refine ⟨?_, fun q hq => ?_⟩
  ·show X5.1.d = _
   rw [f1.2, e4]; rfl
  ·have h0 := (pd0 rfl).1
   have hq' : P[idN N d]? = some q := hq
   have := g3 q (by rw [idx, if_neg (by simp), e1, app_lt h0]; exact hq')
   rw [idx, if_neg (by simp)] at this
   exact keepP _ _ this
 ·have keep4 : ∀ i q, i ≠ p.n.toNat → X4.1.N[i]? = some q → (nodeS p.n.toNat X5).N[i]? = some q := fun i q h1 h => by
   show (X5.1.N.set _ _)[i]? = _
   rw [set_ne h1]; exact (k5.n i (List.getElem?_eq_some_iff.1 h).1).trans h
  have keep5 : ∀ i q, i ≠ p.n.toNat → X5.1.N[i]? = some q → (nodeS p.n.toNat X5).N[i]? = some q := fun i q h1 h => by
   show (X5.1.N.set _ _)[i]? = _
   rw [set_ne h1]; exact h
  have h4l := k4.nl
  simp only at h4l
  refine ⟨⟨2, id, ⟨0, 0⟩, (X5.1.u : Int), (X5.1.d : Int)⟩, X4.2, X5.2, rfl, ?_, ?_, set_at (by show p.n.toNat < X5.1.N.length; omega)⟩
  ·rw [f1.1, f1.2]
   unfold QEnd
   cases ce
   ·rw [hX4]; simp [endS]
   ·rw [if_pos rfl]
    have a1 : X4.1.N = N2.N ++ [⟨2, id, ⟨0, 0⟩, (N2.u : Int), (N2.d : Int)⟩] ++ [lfN P3.length] := by rw [hX4]; simp [endS]
    have a2 : X4.1.P = P3 ++ [⟨{ p.t with hl := true, l := s.b }, ((N2.N.length + 1 : Nat) : Int), false⟩] := by rw [hX4]; simp [endS]
    refine ⟨N2.N.length, N2.N.length + 1, by show N.length ≤ _; omega, by show N.length ≤ _; omega, keep4 _ _ (by omega) ?_, keep4 _ _ (by omega) ?_, ?_, ?_⟩
    ·rw [a1, app_lt (by simp)]; exact app_at rfl
    ·rw [show (⟨N, P, u, d⟩ : PSt).P.length + cu.toNat + cd.toNat = P3.length by (show P.length + _ + _ = _); omega, a1]; exact app_at (by simp)
    ·show X5.1.P[_]? = _
     have h4 : X4.1.P.length = P3.length + 1 := l4
     rw [k5.p _ (show P.length + cu.toNat + cd.toNat < X4.1.P.length by omega), a2]; exact app_at (by show P.length + _ + _ = _; omega)
    ·rw [hX4]; simp [endS]
  ·unfold QBeg
   cases cb
   ·rw [hX5]; simp [begS]
   ·rw [if_pos rfl]
    have a1 : X5.1.N = X4.1.N ++ [lfN X4.1.P.length] ++ [X4.2] := by rw [hX5]; simp [begS]
    have a2 : X5.1.P = X4.1.P ++ [⟨{ p.t with hr := true, r := s.a }, (X4.1.N.length : Int), false⟩] := by rw [hX5]; simp [begS]
    refine ⟨X4.1.N.length + 1, X4.1.N.length, by show N.length ≤ _; omega, by show N.length ≤ _; omega, keep5 _ _ (by omega) ?_, keep5 _ _ (by omega) ?_, ?_, ?_⟩
    ·rw [a1]; exact app_at (by simp)
    ·rw [a1, app_lt (by simp), show (⟨N, P, u, d⟩ : PSt).P.length + cu.toNat + cd.toNat + ce.toNat = X4.1.P.length by (show P.length + _ + _ + _ = _); omega]; exact app_at rfl
    ·show X5.1.P[_]? = _
     rw [a2]; exact app_at (by show P.length + _ + _ + _ = _; omega)
    ·rw [hX5]; simp [begS]
end Go.Proofs.YtlhmjhildlnokaaGreat
