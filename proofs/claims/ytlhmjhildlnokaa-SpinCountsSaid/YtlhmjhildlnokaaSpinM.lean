/-
  The plain law of layer 16: what leaves a vertex, in order; what follows a half. No walk stands here.
-/
import Derived.Test.YtlhmjhildlnokaaSpinL
namespace Go.Proofs.Ytlhmjhildlnokaa
set_option linter.unusedVariables false
set_option linter.unusedSimpArgs false

/-! ### Lists in a strict order -/
structure Tot (lt : Hf → Hf → Bool) (S : Hf → Prop) : Prop where
  asym : ∀ a b, S a → S b → lt a b = true → lt b a = false
  trans : ∀ a b c, S a → S b → S c → lt a b = true → lt b c = true → lt a c = true
  total : ∀ a b, S a → S b → a ≠ b → lt a b = true ∨ lt b a = true
def insH (lt : Hf → Hf → Bool) (x : Hf) : List Hf → List Hf
  | [] => [x]
  | y :: ys => if lt x y then x :: y :: ys else y :: insH lt x ys
variable {lt : Hf → Hf → Bool} {S : Hf → Prop}
theorem insH_perm (x : Hf) : ∀ l, (insH lt x l).Perm (x :: l)
  | [] => .refl _
  | y :: ys => by
    unfold insH
    split
    · exact .refl _
    · exact ((insH_perm x ys).cons y).trans (.swap _ _ _)
theorem insH_sorted (T : Tot lt S) {x : Hf} (hx : S x) : ∀ {l : List Hf}, (∀ y ∈ l, S y) → x ∉ l → l.Pairwise (fun a b => lt a b = true) → (insH lt x l).Pairwise (fun a b => lt a b = true)
  | [], _, _, _ => by simp [insH]
  | y :: ys, hS, hn, hp => by
    have hp' := List.pairwise_cons.1 hp
    unfold insH
    split
    · rename_i hlt
      refine .cons (fun z hz => ?_) hp
      rcases List.mem_cons.1 hz with rfl | hz
      · exact hlt
      · exact T.trans x y z hx (hS y (by simp)) (hS z (by simp [hz])) hlt (hp'.1 z hz)
    · rename_i hlt
      refine .cons (fun z hz => ?_) (insH_sorted T hx (fun z hz => hS z (by simp [hz])) (fun h => hn (by simp [h])) hp'.2)
      rcases List.mem_cons.1 ((insH_perm x ys).mem_iff.1 hz) with rfl | hz
      · rcases T.total z y hx (hS y (by simp)) (fun e => hn (by simp [e])) with h | h
        · exact absurd h hlt
        · exact h
      · exact hp'.1 z hz
theorem sorted_uniq (T : Tot lt S) {l m : List Hf} (hS : ∀ y ∈ l, S y) (hp : l.Perm m) (h1 : l.Pairwise (fun a b => lt a b = true)) (h2 : m.Pairwise (fun a b => lt a b = true)) : l = m := by
  refine List.Perm.eq_of_pairwise (le := fun a b => lt a b = true) (fun a b ha hb h3 h4 => ?_) h1 h2 hp
  have := T.asym a b (hS a ha) (hS b (hp.mem_iff.2 hb)) h3
  rw [h4] at this; cases this
/-- What an order of '<' or none makes of a list that holds nothing twice. -/
theorem sorted_of (T : Tot lt S) : ∀ {l : List Hf}, (∀ y ∈ l, S y) → l.Nodup → l.Pairwise (fun a b => lt b a = false) → l.Pairwise (fun a b => lt a b = true)
  | [], _, _, _ => .nil
  | y :: ys, hS, hn, hp => by
    have hp' := List.pairwise_cons.1 hp
    have hn' := List.nodup_cons.1 hn
    refine .cons (fun z hz => ?_) (sorted_of T (fun z hz => hS z (by simp [hz])) hn'.2 hp'.2)
    rcases T.total y z (hS y (by simp)) (hS z (by simp [hz])) (fun e => hn'.1 (e ▸ hz)) with h | h
    · exact h
    · rw [hp'.1 z hz] at h; cases h

/-! ### What leaves a vertex -/
variable {vs : List Vt} {es : List Eg}
def ltAt (vs : List Vt) (es : List Eg) (v : Int) (g h : Hf) : Bool := decide (aroundZ (rpt vs v) (farP vs es g) (farP vs es h) < 0)
theorem half_ends (H : RightP vs es) {h : Hf} (hm : h ∈ halves es) : (vs.find? fun v => v.id == fromZ es h).isSome = true ∧ (vs.find? fun v => v.id == toZ es h).isSome = true ∧ fromZ es h ≠ toZ es h := by
  obtain ⟨e, he, hh⟩ := mem_halves.1 hm
  have hE := H.each e he
  obtain ⟨he', b⟩ := h
  simp only at hh
  subst hh
  unfold toZ fromZ twinH
  rw [egOf_mem H he]
  cases b
  · exact ⟨hE.2.1.2.1, hE.2.1.2.2, hE.2.1.1⟩
  · exact ⟨hE.2.1.2.2, hE.2.1.2.1, fun q => hE.2.1.1 q.symm⟩
theorem around_at (H : RightP vs es) {v : Int} {g h : Hf} (hg : g ∈ halves es ∧ fromZ es g = v) (hh : h ∈ halves es ∧ fromZ es h = v) :
    aroundZ (rpt vs v) (farP vs es g) (farP vs es h) = aroundL (rpt vs v) (farP vs es g) (farP vs es h) ∧ farP vs es g ≠ rpt vs v ∧ farP vs es h ≠ rpt vs v := by
  obtain ⟨hg, rfl⟩ := hg
  obtain ⟨hh, e⟩ := hh
  have eg := half_ends H hg
  have eh := half_ends H hh
  have n1 : farP vs es g ≠ rpt vs (fromZ es g) := rpt_ne H.verts (fun q => eg.2.2 q.symm) eg.2.1 eg.1
  have n2 : farP vs es h ≠ rpt vs (fromZ es g) := rpt_ne H.verts (fun q => eh.2.2 (by rw [e, ← q])) eh.2.1 eg.1
  refine ⟨?_, n1, n2⟩
  unfold aroundZ
  have i1 := rpt_in H.verts eg.1
  have i2 : inB (farP vs es g) = true := rpt_in H.verts eg.2.1
  have i3 : inB (farP vs es h) = true := rpt_in H.verts eh.2.1
  rw [if_pos ⟨by rw [i1, i2, i3]; rfl, n1, n2⟩]
theorem tot_at (H : RightP vs es) (v : Int) : Tot (ltAt vs es v) (fun h => h ∈ halves es ∧ fromZ es h = v) where
  asym a b ha hb h := by
    unfold ltAt at *
    simp only [decide_eq_true_eq, decide_eq_false_iff_not] at *
    rw [around_anti]; omega
  trans a b c ha hb hc h1 h2 := by
    unfold ltAt at *
    simp only [decide_eq_true_eq] at *
    have e1 := around_at H ha hb
    have e2 := around_at H hb hc
    have e3 := around_at H ha hc
    rw [e1.1] at h1
    rw [e2.1] at h2
    rw [e3.1]
    have h3 := around_trans e1.2.1 e1.2.2 e2.2.2 (by omega) (by omega)
    have hne : a ≠ c := by
      rintro rfl
      have := around_anti (rpt vs v) (farP vs es a) (farP vs es b)
      rw [e1.1, e2.1] at this
      omega
    have h4 := apart_ways H ha.1 hc.1 (by rw [ha.2, hc.2]) hne
    rw [ha.2] at h4
    omega
  total a b ha hb hne := by
    have h4 := apart_ways H ha.1 hb.1 (by rw [ha.2, hb.2]) hne
    rw [ha.2] at h4
    have e1 := around_at H ha hb
    have h5 := around_anti (rpt vs v) (farP vs es a) (farP vs es b)
    unfold ltAt
    simp only [decide_eq_true_eq]
    rw [← e1.1] at h4
    omega
/-- What leaves a vertex, as the edges stand; around to the left. -/
def outU (es : List Eg) (v : Int) : List Hf := (halves es).filter fun h => fromZ es h == v
def outZ (vs : List Vt) (es : List Eg) (v : Int) : List Hf := (halves es).foldl (fun out h => if fromZ es h = v then insH (ltAt vs es v) h out else out) []
theorem mem_outU {v : Int} {h : Hf} : h ∈ outU es v ↔ h ∈ halves es ∧ fromZ es h = v := by unfold outU; rw [List.mem_filter]; simp
theorem out_gen (H : RightP vs es) (v : Int) : ∀ (hs out : List Hf), (∀ h ∈ hs, h ∈ halves es) → (∀ h ∈ out, h ∈ halves es ∧ fromZ es h = v) → (out ++ hs).Nodup → out.Pairwise (fun a b => ltAt vs es v a b = true) →
    (hs.foldl (fun out h => if fromZ es h = v then insH (ltAt vs es v) h out else out) out).Pairwise (fun a b => ltAt vs es v a b = true) ∧ (hs.foldl (fun out h => if fromZ es h = v then insH (ltAt vs es v) h out else out) out).Perm (out ++ hs.filter fun h => fromZ es h == v)
  | [], out, _, _, _, hp => by simpa using hp
  | h :: hs, out, hm, ho, hn, hp => by
    rw [List.foldl_cons]
    have hnd := List.nodup_append.1 hn
    by_cases hv : fromZ es h = v
    · rw [if_pos hv, List.filter_cons]
      have hb : (fromZ es h == v) = true := by simpa using hv
      simp only [hb, if_true]
      have hnot : h ∉ out := fun q => hnd.2.2 h q h (by simp) rfl
      have ip := insH_perm (lt := ltAt vs es v) h out
      have r := out_gen H v hs (insH (ltAt vs es v) h out) (fun g hg => hm g (by simp [hg])) (fun g hg => by
        rcases List.mem_cons.1 (ip.mem_iff.1 hg) with rfl | hg
        · exact ⟨hm g (by simp), hv⟩
        · exact ho g hg) (by
        refine ((ip.append_right hs).nodup_iff).2 ?_
        exact (List.perm_middle (l₁ := out) (a := h) (l₂ := hs)).nodup_iff.1 hn) (insH_sorted (tot_at H v) ⟨hm h (by simp), hv⟩ ho hnot hp)
      refine ⟨r.1, r.2.trans ?_⟩
      exact (ip.append_right _).trans List.perm_middle.symm
    · rw [if_neg hv, List.filter_cons]
      have hb : (fromZ es h == v) = false := by simpa using hv
      simp only [hb, Bool.false_eq_true, if_false]
      refine out_gen H v hs out (fun g hg => hm g (by simp [hg])) ho ?_ hp
      exact hn.sublist (List.Sublist.append_left (List.sublist_cons_self _ _) _)
theorem out_spec (H : RightP vs es) (v : Int) : (outZ vs es v).Pairwise (fun a b => ltAt vs es v a b = true) ∧ (outZ vs es v).Perm (outU es v) := by
  have := out_gen H v (halves es) [] (fun h hh => hh) (by simp) (by simpa using halves_nodup H.ids) .nil
  simpa [outZ, outU] using this
theorem outU_nodup (H : RightP vs es) (v : Int) : (outU es v).Nodup := (halves_nodup H.ids).filter _
theorem outZ_nodup (H : RightP vs es) (v : Int) : (outZ vs es v).Nodup := (out_spec H v).2.nodup_iff.2 (outU_nodup H v)
theorem mem_outZ (H : RightP vs es) {v : Int} {h : Hf} : h ∈ outZ vs es v ↔ h ∈ halves es ∧ fromZ es h = v := by rw [(out_spec H v).2.mem_iff, mem_outU]
/-- However it was sorted. -/
theorem out_sorted (H : RightP vs es) {v : Int} {l : List Hf} (hp : l.Perm (outU es v)) (hs : l.Pairwise (fun a b => ltAt vs es v b a = false)) : l = outZ vs es v := by
  have hS : ∀ y ∈ l, y ∈ halves es ∧ fromZ es y = v := fun y hy => mem_outU.1 (hp.mem_iff.1 hy)
  have h1 := sorted_of (tot_at H v) hS (hp.nodup_iff.2 (outU_nodup H v)) hs
  exact sorted_uniq (tot_at H v) hS (hp.trans (out_spec H v).2.symm) h1 (out_spec H v).1

/-! ### What follows a half -/
def prevC (l : List Hf) (x : Hf) : Hf := match l.findIdx? (fun y => y == x) with
  | some 0 => (l[l.length - 1]?).getD ⟨0, false⟩
  | some (i + 1) => (l[i]?).getD ⟨0, false⟩
  | none => ⟨0, false⟩
def nextZ (vs : List Vt) (es : List Eg) (h : Hf) : Hf := prevC (outZ vs es (toZ es h)) (twinH h)
theorem find_at {l : List Hf} {x : Hf} (hn : l.Nodup) {i : Nat} (h : l[i]? = some x) : l.findIdx? (fun y => y == x) = some i := by
  obtain ⟨hi, rfl⟩ := List.getElem?_eq_some_iff.1 h
  rw [List.findIdx?_eq_some_iff_getElem]
  refine ⟨hi, by simp, fun j hj => ?_⟩
  simp
  intro e
  have := (List.getElem_inj (h₀ := by omega) (h₁ := hi) hn).1 e
  omega
theorem prevC_at {l : List Hf} {x : Hf} (hn : l.Nodup) {i : Nat} (h : l[i]? = some x) : prevC l x = (l[(i + l.length - 1) % l.length]?).getD ⟨0, false⟩ := by
  have hi : i < l.length := (List.getElem?_eq_some_iff.1 h).1
  unfold prevC
  rw [find_at hn h]
  cases i with
  | zero =>
    simp only [Nat.zero_add]
    rw [Nat.mod_eq_of_lt (by omega)]
  | succ i =>
    simp only
    rw [show i + 1 + l.length - 1 = i + l.length by omega, Nat.add_mod_right, Nat.mod_eq_of_lt (by omega)]
theorem prevC_mem {l : List Hf} {x : Hf} (hn : l.Nodup) (hx : x ∈ l) : prevC l x ∈ l := by
  obtain ⟨i, hi⟩ := List.getElem?_of_mem hx
  rw [prevC_at hn hi]
  have hlt : i < l.length := (List.getElem?_eq_some_iff.1 hi).1
  have hm : (i + l.length - 1) % l.length < l.length := Nat.mod_lt _ (by omega)
  rw [List.getElem?_eq_getElem hm]
  exact List.getElem_mem hm
theorem prevC_inj {l : List Hf} {x y : Hf} (hn : l.Nodup) (hx : x ∈ l) (hy : y ∈ l) (h : prevC l x = prevC l y) : x = y := by
  obtain ⟨i, hi⟩ := List.getElem?_of_mem hx
  obtain ⟨j, hj⟩ := List.getElem?_of_mem hy
  rw [prevC_at hn hi, prevC_at hn hj] at h
  have hil : i < l.length := (List.getElem?_eq_some_iff.1 hi).1
  have hjl : j < l.length := (List.getElem?_eq_some_iff.1 hj).1
  have h1 : (i + l.length - 1) % l.length < l.length := Nat.mod_lt _ (by omega)
  have h2 : (j + l.length - 1) % l.length < l.length := Nat.mod_lt _ (by omega)
  rw [List.getElem?_eq_getElem h1, List.getElem?_eq_getElem h2] at h
  have h3 := (List.getElem_inj (h₀ := h1) (h₁ := h2) hn).1 h
  have e : ∀ i, i < l.length → (i + l.length - 1) % l.length = if i = 0 then l.length - 1 else i - 1 := by
    intro i hi
    by_cases h0 : i = 0
    · subst h0; rw [if_pos rfl, Nat.zero_add, Nat.mod_eq_of_lt (by omega)]
    · rw [if_neg h0, show i + l.length - 1 = (i - 1) + l.length by omega, Nat.add_mod_right, Nat.mod_eq_of_lt (by omega)]
  rw [e i hil, e j hjl] at h3
  have : i = j := by
    split at h3 <;> split at h3 <;> omega
  subst this
  rw [hi] at hj
  exact Option.some.inj hj
theorem from_twin (h : Hf) : fromZ es (twinH h) = toZ es h := rfl
theorem to_twin (h : Hf) : toZ es (twinH h) = fromZ es h := by unfold toZ; rw [twin_twin]
theorem twin_out (H : RightP vs es) {h : Hf} (hm : h ∈ halves es) : twinH h ∈ outZ vs es (toZ es h) := (mem_outZ H).2 ⟨twin_mem hm, rfl⟩
theorem next_mem (H : RightP vs es) {h : Hf} (hm : h ∈ halves es) : nextZ vs es h ∈ halves es ∧ fromZ es (nextZ vs es h) = toZ es h := (mem_outZ H).1 (prevC_mem (outZ_nodup H _) (twin_out H hm))
theorem next_inj (H : RightP vs es) {g h : Hf} (hg : g ∈ halves es) (hh : h ∈ halves es) (e : nextZ vs es g = nextZ vs es h) : g = h := by
  have e1 := (next_mem H hg).2
  have e2 := (next_mem H hh).2
  rw [e, e2] at e1
  unfold nextZ at e
  rw [← e1] at e
  have := prevC_inj (outZ_nodup H _) (by rw [e1]; exact twin_out H hg) (twin_out H hh) e
  rw [← twin_twin g, this, twin_twin]
end Go.Proofs.Ytlhmjhildlnokaa
