/-
  Plans: the plain law of what is kept. What may be done makes a right plan of a right one, what may not would make none; how many ends of edges there are. No walk stands here.
-/
import Derived.Test.YtbdmfmdkcjfjdaaPlanL
import Derived.Test.YtbdmfmdkcjfjdaaPlan9
namespace Go.Proofs.Ytbdmfmdkcjfjdaa
set_option linter.unusedVariables false
set_option linter.unusedSimpArgs false

/-! ### Ends of edges -/
theorem count_none {n : Int} : ∀ {vs : List Vt}, (∀ v ∈ vs, v.id ≠ n) → (vs.map fun v => if n = v.id then 1 else 0).sum = 0
  | [], _ => rfl
  | v :: l, h => by
    rw [List.map_cons, List.sum_cons, count_none (fun u hu => h u (List.mem_cons_of_mem _ hu)), if_neg (fun e => h v (by simp) e.symm)]
theorem count_one {n : Int} : ∀ {vs : List Vt}, (vs.Pairwise fun u v => u.id < v.id ∧ u.p ≠ v.p) → (vs.find? fun v => v.id == n).isSome = true → (vs.map fun v => if n = v.id then 1 else 0).sum = 1
  | [], _, h => by simp at h
  | v :: l, hp, h => by
    obtain ⟨h1, h2⟩ := List.pairwise_cons.1 hp
    rw [List.map_cons, List.sum_cons]
    by_cases hv : v.id = n
    · rw [if_pos hv.symm, count_none fun u hu => by have := (h1 u hu).1; omega]
    · rw [List.find?_cons_of_neg (by simpa using hv)] at h
      rw [if_neg (fun e => hv e.symm), count_one h2 h]
theorem sum_add {α : Type} (f g : α → Nat) : ∀ l : List α, (l.map fun a => f a + g a).sum = (l.map f).sum + (l.map g).sum
  | [] => rfl
  | a :: l => by simp only [List.map_cons, List.sum_cons, sum_add f g l]; omega
theorem deg_sum {vs : List Vt} (hp : vs.Pairwise fun u v => u.id < v.id ∧ u.p ≠ v.p) : ∀ {es : List Eg}, (∀ e ∈ es, (vs.find? fun v => v.id == e.a).isSome = true ∧ (vs.find? fun v => v.id == e.b).isSome = true) → (vs.map fun v => degN es v.id).sum = 2 * es.length
  | [], _ => by
    have : ∀ l : List Vt, (l.map fun v => degN [] v.id).sum = 0 := fun l => by
      induction l with
      | nil => rfl
      | cons a l ih => rw [List.map_cons, List.sum_cons, ih]; rfl
    rw [this]; rfl
  | e :: l, h => by
    have ih := deg_sum hp (es := l) fun e he => h e (List.mem_cons_of_mem _ he)
    have he := h e (by simp)
    have e1 : (vs.map fun v => degN (e :: l) v.id).sum = (vs.map fun v => ((if e.a = v.id then 1 else 0) + (if e.b = v.id then 1 else 0)) + degN l v.id).sum := rfl
    have e2 := sum_add (fun v : Vt => (if e.a = v.id then 1 else 0) + (if e.b = v.id then 1 else 0)) (fun v => degN l v.id) vs
    have e3 := sum_add (fun v : Vt => if e.a = v.id then 1 else 0) (fun v => if e.b = v.id then 1 else 0) vs
    have e4 := count_one hp he.1
    have e5 := count_one hp he.2
    rw [e1, e2, e3, ih, e4, e5, List.length_cons]
    omega
def degS (es : List Eg) (vs : List Vt) : Nat := (vs.map fun v => degN es v.id).sum
theorem degS_step {es : List Eg} {vs : List Vt} {k : Nat} {i x y : Int} (h : vs[k]? = some ⟨i, ⟨x, y⟩⟩) : degS es (vs.take (k + 1)) = degS es (vs.take k) + degN es i := by
  unfold degS
  rw [List.take_add_one, h]
  simp
theorem degS_le (es : List Eg) : ∀ vs : List Vt, degS es vs ≤ vs.length * (2 * es.length)
  | [] => by simp [degS]
  | v :: l => by
    have h1 := degS_le es l
    have h2 := deg_le v.id es
    have : degS es (v :: l) = degN es v.id + degS es l := rfl
    rw [this, List.length_cons, Nat.add_mul]
    omega
theorem degS_all {vs : List Vt} {es : List Eg} (h : rightR vs es = true) : degS es vs = 2 * es.length := by
  have hR := (right_iff vs es).1 h
  exact deg_sum hR.verts.two fun e he => (hR.each e he).2.1.2

/-! ### Rows with one more -/
theorem lastV_le {vs : List Vt} (h : vs.Pairwise fun u v => u.id < v.id ∧ u.p ≠ v.p) : ∀ v ∈ vs, v.id ≤ lastV vs := by
  intro v hv
  obtain ⟨i, hi⟩ := List.getElem?_of_mem hv
  have hil := (List.getElem?_eq_some_iff.1 hi).1
  have hl : vs[vs.length - 1]? = some vs[vs.length - 1] := List.getElem?_eq_getElem (by omega)
  have e : lastV vs = vs[vs.length - 1].id := by
    have := lastV_step hl
    rwa [show vs.length - 1 + 1 = vs.length by omega, List.take_length] at this
  rw [e]
  by_cases hj : i = vs.length - 1
  · subst hj; rw [hl] at hi; injection hi with hi; rw [hi]; exact Int.le_refl _
  · have := ((pairwise_get vs).1 h i (vs.length - 1) _ _ (by omega) hi hl).1
    omega
theorem lastE_le {es : List Eg} (h : es.Pairwise fun e f => e.id < f.id ∧ ((e.a == f.a && e.b == f.b) || (e.a == f.b && e.b == f.a)) = false) : ∀ v ∈ es, v.id ≤ lastE es := by
  intro v hv
  obtain ⟨i, hi⟩ := List.getElem?_of_mem hv
  have hil := (List.getElem?_eq_some_iff.1 hi).1
  have hl : es[es.length - 1]? = some es[es.length - 1] := List.getElem?_eq_getElem (by omega)
  have e : lastE es = es[es.length - 1].id := by
    have := lastE_step hl
    rwa [show es.length - 1 + 1 = es.length by omega, List.take_length] at this
  rw [e]
  by_cases hj : i = es.length - 1
  · subst hj; rw [hl] at hi; injection hi with hi; rw [hi]; exact Int.le_refl _
  · have := ((pairwise_get es).1 h i (es.length - 1) _ _ (by omega) hi hl).1
    omega
theorem lastV_pos {vs : List Vt} (h : ∀ v ∈ vs, 1 ≤ v.id) : 0 ≤ lastV vs := by
  unfold lastV
  cases hl : vs.getLast? with
  | none => simp
  | some v => have := h v (List.mem_of_getLast? hl); simp; omega
theorem lastE_pos {es : List Eg} (h : ∀ v ∈ es, 1 ≤ v.id) : 0 ≤ lastE es := by
  unfold lastE
  cases hl : es.getLast? with
  | none => simp
  | some v => have := h v (List.mem_of_getLast? hl); simp; omega
theorem find_app {vs m : List Vt} {id : Int} (h : (vs.find? fun v => v.id == id).isSome = true) : ((vs ++ m).find? fun v => v.id == id) = vs.find? fun v => v.id == id := by
  rw [List.find?_append]
  obtain ⟨v, hv⟩ := Option.isSome_iff_exists.1 h
  rw [hv]; rfl
theorem rpt_app {vs m : List Vt} {id : Int} (h : (vs.find? fun v => v.id == id).isSome = true) : rpt (vs ++ m) id = rpt vs id := by
  unfold rpt; rw [find_app h]
theorem onWay_app (vs m : List Vt) (a b : Pt) : onWayR (vs ++ m) a b = (onWayR vs a b || onWayR m a b) := by
  unfold onWayR; rw [List.any_append]
theorem onWay_one (i : Int) (p a b : Pt) : onWayR [⟨i, p⟩] a b = onR p a b := by simp [onWayR]

/-! ### A vertex more -/
theorem add_iff {vs : List Vt} {es : List Eg} (h : RightP vs es) (hl : vs.length < 512) (p : Pt) :
    RightP (vs ++ [⟨lastV vs + 1, p⟩]) es ↔ (inB p = true ∧ (∀ v ∈ vs, v.p ≠ p) ∧ ∀ e ∈ es, onR p (rpt vs e.a) (rpt vs e.b) = false) := by
  have ends := fun e he => (h.each e he).2.1
  constructor
  · intro h'
    refine ⟨(h'.verts.each ⟨lastV vs + 1, p⟩ (by simp)).2, fun v hv => ?_, fun e he => ?_⟩
    · exact ((List.pairwise_append.1 h'.verts.two).2.2 v hv ⟨lastV vs + 1, p⟩ (by simp)).2
    · have := (h'.each e he).2.2
      rw [rpt_app (ends e he).2.1, rpt_app (ends e he).2.2, onWay_app, Bool.or_eq_false_iff, onWay_one] at this
      exact this.2
  · rintro ⟨h1, h2, h3⟩
    refine ⟨⟨by simp; omega, h.few.2⟩, ⟨fun v hv => ?_, ?_⟩, fun e he => ?_, ?_⟩
    · rcases List.mem_append.1 hv with hv | hv
      · exact h.verts.each v hv
      · obtain rfl := List.mem_singleton.1 hv
        exact ⟨by have := lastV_pos fun v hv => (h.verts.each v hv).1; show 1 ≤ lastV vs + 1; omega, h1⟩
    · refine List.pairwise_append.2 ⟨h.verts.two, by simp, fun u hu v hv => ?_⟩
      obtain rfl := List.mem_singleton.1 hv
      exact ⟨by have := lastV_le h.verts.two u hu; show u.id < lastV vs + 1; omega, h2 u hu⟩
    · obtain ⟨k1, ⟨k2, k3, k4⟩, k5⟩ := h.each e he
      rw [find_app k3, find_app k4, rpt_app k3, rpt_app k4, onWay_app, onWay_one, k5, h3 e he]
      exact ⟨k1, ⟨k2, k3, k4⟩, rfl⟩
    · refine h.two.imp_of_mem fun {e f} he hf hh => ?_
      rw [rpt_app (ends e he).2.1, rpt_app (ends e he).2.2, rpt_app (ends f hf).2.1, rpt_app (ends f hf).2.2]
      exact hh
theorem add_keeps {vs : List Vt} {es : List Eg} (h : rightR vs es = true) (hl : vs.length < 512) (p : Pt) : rightR (vs ++ [⟨lastV vs + 1, p⟩]) es = decide (canAddR vs es p = 0) := by
  have hR := (right_iff vs es).1 h
  rw [Bool.eq_iff_iff, right_iff, add_iff hR hl, decide_eq_true_eq]
  unfold canAddR
  rw [h]
  by_cases h1 : inB p = true
  · by_cases h2 : vs.any (fun v => decide (v.p = p)) = true
    · simp only [h1, h2, if_true, Bool.true_eq_false, if_false]
      obtain ⟨v, hv, e⟩ := List.any_eq_true.1 h2
      constructor
      · rintro ⟨_, h3, _⟩; exact absurd (of_decide_eq_true e) (h3 v hv)
      · intro h; simp at h
    · by_cases h3 : es.any (fun e => onR p (rpt vs e.a) (rpt vs e.b)) = true
      · simp only [h1, h2, h3, if_true, Bool.true_eq_false, if_false]
        obtain ⟨v, hv, e⟩ := List.any_eq_true.1 h3
        constructor
        · rintro ⟨_, _, h3⟩; rw [h3 v hv] at e; cases e
        · intro h; simp at h
      · have h2' : (vs.any fun v => decide (v.p = p)) = false := by simpa using h2
        have h3' : (es.any fun e => onR p (rpt vs e.a) (rpt vs e.b)) = false := by
          cases h : (es.any fun e => onR p (rpt vs e.a) (rpt vs e.b)) with
          | true => exact absurd h h3
          | false => rfl
        rw [h1, h2', h3']
        have h4 : ¬ 512 ≤ vs.length := by omega
        simp only [Bool.true_eq_false, Bool.false_eq_true, if_false, h4, true_and, iff_true]
        exact ⟨fun v hv e => h2 (List.any_eq_true.2 ⟨v, hv, by simpa using e⟩), fun e he => by simpa using List.any_eq_false.1 h3' e he⟩
  · have h1' : inB p = false := by simpa using h1
    simp only [h1', Bool.true_eq_false, if_true, if_false, Bool.false_eq_true, false_and, false_iff]
    decide
/-! ### An edge more -/
theorem link_iff {vs : List Vt} {es : List Eg} (h : RightP vs es) (hl : es.length < 1024) (a b : Int) :
    RightP vs (es ++ [⟨lastE es + 1, a, b⟩]) ↔ (a ≠ b ∧ (vs.find? fun v => v.id == a).isSome = true ∧ (vs.find? fun v => v.id == b).isSome = true) ∧ linksB es a b = false ∧ onWayR vs (rpt vs a) (rpt vs b) = false ∧ meetsR vs es (rpt vs a) (rpt vs b) = false := by
  constructor
  · intro h'
    obtain ⟨_, k2, k3⟩ := h'.each ⟨lastE es + 1, a, b⟩ (by simp)
    have := (List.pairwise_append.1 h'.two).2.2
    refine ⟨k2, ?_, k3, ?_⟩
    · unfold linksB
      rw [List.any_eq_false]
      intro e he
      have := (this e he ⟨lastE es + 1, a, b⟩ (by simp)).2.1
      simpa using this
    · unfold meetsR
      rw [List.any_eq_false]
      intro e he
      have := (this e he ⟨lastE es + 1, a, b⟩ (by simp)).2.2
      simpa using this
  · rintro ⟨k1, k2, k3, k4⟩
    unfold linksB at k2
    unfold meetsR at k4
    rw [List.any_eq_false] at k2 k4
    have hp : es.Pairwise fun e f => e.id < f.id ∧ ((e.a == f.a && e.b == f.b) || (e.a == f.b && e.b == f.a)) = false := h.two.imp fun hh => ⟨hh.1, hh.2.1⟩
    refine ⟨⟨h.few.1, by simp; omega⟩, h.verts, fun e he => ?_, ?_⟩
    · rcases List.mem_append.1 he with he | he
      · exact h.each e he
      · obtain rfl := List.mem_singleton.1 he
        exact ⟨by have := lastE_pos fun v hv => (h.each v hv).1; show 1 ≤ lastE es + 1; omega, k1, k3⟩
    · refine List.pairwise_append.2 ⟨h.two, by simp, fun e he f hf => ?_⟩
      obtain rfl := List.mem_singleton.1 hf
      refine ⟨by have := lastE_le hp e he; show e.id < lastE es + 1; omega, ?_, ?_⟩
      · simpa using k2 e he
      · simpa using k4 e he
theorem link_keeps {vs : List Vt} {es : List Eg} (h : rightR vs es = true) (hl : es.length < 1024) (a b : Int) : rightR vs (es ++ [⟨lastE es + 1, a, b⟩]) = decide (canLinkR vs es a b = 0) := by
  have hR := (right_iff vs es).1 h
  rw [Bool.eq_iff_iff, right_iff, link_iff hR hl, decide_eq_true_eq]
  unfold canLinkR
  rw [h]
  by_cases h0 : a = b
  · rw [if_pos (.inr (by simpa using h0))]
    simp [h0]
  · rw [if_neg (by simp [h0])]
    cases h1 : (vs.find? fun v => v.id == a).isSome with
    | false => simp
    | true =>
      cases h2 : (vs.find? fun v => v.id == b).isSome with
      | false => simp
      | true =>
        cases h3 : linksB es a b with
        | true => simp
        | false =>
          cases h4 : onWayR vs (rpt vs a) (rpt vs b) with
          | true => simp
          | false =>
            cases h5 : meetsR vs es (rpt vs a) (rpt vs b) with
            | true => simp
            | false => simp [h0]; omega
/-! ### A vertex less, an edge less -/
theorem deg_zero {n : Int} : ∀ {es : List Eg}, degN es n = 0 ↔ ∀ e ∈ es, e.a ≠ n ∧ e.b ≠ n
  | [] => by simp [degN]
  | e :: l => by
    simp only [degN, List.forall_mem_cons]
    rw [← deg_zero (es := l)]
    constructor
    · intro h
      refine ⟨⟨fun e1 => ?_, fun e1 => ?_⟩, by omega⟩
      · rw [if_pos e1] at h; omega
      · rw [if_pos e1] at h; omega
    · rintro ⟨⟨h1, h2⟩, h3⟩
      rw [if_neg h1, if_neg h2, h3]
theorem find_filter {vs : List Vt} {id n : Int} (h : n ≠ id) : ((vs.filter fun v => v.id != id).find? fun v => v.id == n) = vs.find? fun v => v.id == n := by
  induction vs with
  | nil => rfl
  | cons v l ih =>
    by_cases hv : v.id = id
    · rw [List.filter_cons_of_neg (by simpa using hv), ih, List.find?_cons_of_neg (by simp; omega)]
    · rw [List.filter_cons_of_pos (by simpa using hv)]
      by_cases hn : v.id = n
      · rw [List.find?_cons_of_pos (by simpa using hn), List.find?_cons_of_pos (by simpa using hn)]
      · rw [List.find?_cons_of_neg (by simpa using hn), List.find?_cons_of_neg (by simpa using hn), ih]
theorem find_gone {vs : List Vt} {id : Int} : ((vs.filter fun v => v.id != id).find? fun v => v.id == id) = none := by
  rw [List.find?_eq_none]
  intro v hv
  have := (List.mem_filter.1 hv).2
  simpa using this
theorem drop_iff {vs : List Vt} {es : List Eg} (h : RightP vs es) (id : Int) : RightP (vs.filter fun v => v.id != id) es ↔ degN es id = 0 := by
  rw [deg_zero]
  constructor
  · intro h' e he
    obtain ⟨_, ⟨_, k3, k4⟩, _⟩ := h'.each e he
    refine ⟨fun e1 => ?_, fun e1 => ?_⟩
    · rw [e1, find_gone] at k3; cases k3
    · rw [e1, find_gone] at k4; cases k4
  · intro hd
    have hr : ∀ e ∈ es, rpt (vs.filter fun v => v.id != id) e.a = rpt vs e.a ∧ rpt (vs.filter fun v => v.id != id) e.b = rpt vs e.b := fun e he => by
      unfold rpt
      rw [find_filter (hd e he).1, find_filter (hd e he).2]
      exact ⟨rfl, rfl⟩
    refine ⟨⟨Nat.le_trans (List.length_filter_le _ _) h.few.1, h.few.2⟩, ⟨fun v hv => h.verts.each v (List.mem_filter.1 hv).1, h.verts.two.filter _⟩, fun e he => ?_, ?_⟩
    · obtain ⟨k1, ⟨k2, k3, k4⟩, k5⟩ := h.each e he
      rw [find_filter (hd e he).1, find_filter (hd e he).2, (hr e he).1, (hr e he).2]
      refine ⟨k1, ⟨k2, k3, k4⟩, ?_⟩
      unfold onWayR at k5 ⊢
      rw [List.any_eq_false] at k5 ⊢
      exact fun v hv => k5 v (List.mem_filter.1 hv).1
    · refine h.two.imp_of_mem fun {e f} he hf hh => ?_
      rw [(hr e he).1, (hr e he).2, (hr f hf).1, (hr f hf).2]
      exact hh
theorem drop_keeps {vs : List Vt} {es : List Eg} (h : rightR vs es = true) (id : Int) (h6 : canDropR vs es id ≠ 6) : rightR (vs.filter fun v => v.id != id) es = decide (canDropR vs es id = 0) := by
  have hR := (right_iff vs es).1 h
  rw [Bool.eq_iff_iff, right_iff, drop_iff hR, decide_eq_true_eq]
  unfold canDropR at h6 ⊢
  rw [h] at h6 ⊢
  cases h1 : (vs.find? fun v => v.id == id).isSome with
  | false => rw [h1] at h6; simp at h6
  | true =>
    simp only [Bool.true_eq_false, if_false]
    split
    · constructor
      · intro; omega
      · intro h; simp at h
    · constructor
      · intro; rfl
      · intro; omega
theorem cut_keeps {vs : List Vt} {es : List Eg} (h : rightR vs es = true) (id : Int) : rightR vs (es.filter fun v => v.id != id) = true := by
  have hR := (right_iff vs es).1 h
  rw [right_iff]
  exact ⟨⟨hR.few.1, Nat.le_trans (List.length_filter_le _ _) hR.few.2⟩, hR.verts, fun e he => hR.each e (List.mem_filter.1 he).1, hR.two.filter _⟩
/-- A plan that is not right. -/
theorem wrong_all {vs : List Vt} {es : List Eg} (h : rightR vs es = false) (p : Pt) (a b : Int) : canAddR vs es p = 1 ∧ canLinkR vs es a b = 1 ∧ canDropR vs es a = 1 ∧ canCutR vs es a = 1 ∧ canSplitR vs es a p = 1 := by
  unfold canAddR canLinkR canDropR canCutR canSplitR
  rw [h]
  simp
end Go.Proofs.Ytbdmfmdkcjfjdaa
