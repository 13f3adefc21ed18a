/-
  What spin's wheel holds: the maps of its first two loops, and the lists of what leaves each vertex.
-/
import Derived.Test.YtlhmjhildlnokaaSpin1
namespace Go.Proofs.Ytlhmjhildlnokaa
set_option linter.unusedVariables false
set_option linter.unusedSimpArgs false
open Go.RowKit

def vtM (l : List Vt) : Int → Option Vt := l.foldl (fun m v => upd m v.id v) (fun _ => none)
theorem vtM_step {vs : List Vt} {k : Nat} {v : Vt} (h : vs[k]? = some v) : vtM (vs.take (k + 1)) = upd (vtM (vs.take k)) v.id v := by
  unfold vtM
  rw [List.take_add_one, h]; simp
theorem vtM_find {vs : List Vt} (hid : vs.Pairwise fun e f => e.id < f.id) : ∀ n, vtM vs n = vs.find? fun v => v.id == n := by
  intro n
  suffices ∀ (l : List Vt) (m : Int → Option Vt), (l.Pairwise fun e f => e.id < f.id) → (l.foldl (fun m v => upd m v.id v) m) n = (l.find? fun v => v.id == n).or (m n) by
    unfold vtM; rw [this _ _ hid]; simp
  intro l
  induction l with
  | nil => intro m _; simp
  | cons a l ih =>
    intro m hp
    have hp := List.pairwise_cons.1 hp
    rw [List.foldl_cons, ih _ hp.2, List.find?_cons]
    by_cases ha : a.id = n
    · have h1 : l.find? (fun v => v.id == n) = none := by
        rw [List.find?_eq_none]; intro x hx; have := hp.1 x hx; simp; omega
      have h2 : (a.id == n) = true := by simpa using ha
      rw [h1, h2]; simp [upd, ha]
    · have h2 : (a.id == n) = false := by simpa using ha
      rw [h2]
      have h3 : upd m a.id a n = m n := by unfold upd; rw [if_neg (fun q => ha q.symm)]
      rw [h3]
theorem upd_same {K V : Type} [DecidableEq K] (m : K → Option V) (k : K) (v : V) : upd m k v k = some v := by simp [upd]
theorem upd_upd {K V : Type} [DecidableEq K] (m : K → Option V) (k : K) (v u : V) : upd (upd m k v) k u = upd m k u := by
  funext x; unfold upd; split <;> rfl
/-- from. -/
def frM (es : List Eg) (l : List Hf) : Hf → Option Int := l.foldl (fun m h => upd m h (fromZ es h)) (fun _ => none)
theorem frM_add (es : List Eg) (l : List Hf) (h : Hf) : frM es (l ++ [h]) = upd (frM es l) h (fromZ es h) := by unfold frM; simp
theorem frM_get (es : List Eg) (l : List Hf) (h : Hf) : frM es l h = if h ∈ l then some (fromZ es h) else none := by
  suffices ∀ (l : List Hf) (m : Hf → Option Int), (l.foldl (fun m h => upd m h (fromZ es h)) m) h = if h ∈ l then some (fromZ es h) else m h by
    unfold frM; rw [this]
  intro l
  induction l with
  | nil => intro m; simp
  | cons a l ih =>
    intro m
    rw [List.foldl_cons, ih]
    by_cases hl : h ∈ l
    · simp [hl]
    · rw [if_neg hl]
      by_cases ha : h = a
      · subst ha; simp [upd]
      · rw [if_neg (by simp [hl, ha])]; unfold upd; rw [if_neg ha]
theorem frM_eg (es : List Eg) (l : List Hf) (h : Hf) (hm : h ∈ l) : frM es l h = some (fromZ es h) := by rw [frM_get, if_pos hm]

theorem halves_step {j : Nat} {e : Eg} {es : List Eg} (h : es[j]? = some e) : halves (es.take (j + 1)) = halves (es.take j) ++ [⟨e.id, false⟩, ⟨e.id, true⟩] := by
  unfold halves
  rw [List.take_add_one, h]; simp
theorem halves_len : ∀ es : List Eg, (halves es).length = 2 * es.length
  | [] => rfl
  | e :: es => by
    have := halves_len es
    unfold halves at this ⊢
    rw [List.flatMap_cons, List.length_append, this, List.length_cons]; simp; omega
theorem from_step {vs : List Vt} {es : List Eg} {j : Nat} {e : Eg} (H : RightP vs es) (h : es[j]? = some e) : fromZ es ⟨e.id, false⟩ = e.a ∧ fromZ es ⟨e.id, true⟩ = e.b := by
  have := egOf_mem H (List.mem_of_getElem? h)
  unfold fromZ
  simp only [this]
  exact ⟨rfl, rfl⟩
/-! ### out -/
structure OutE where
  v : Int
  s : Value
  l : List Hf
abbrev oE (o : OutE) : Int × Value := (o.v, o.s)
abbrev oB (o : OutE) : Res := .grow 36 2 o.s o.l.length (hR o.l)
structure OutIs (es : List Eg) (ds : List Hf) (os : List OutE) : Prop where
  nodup : (os.map (·.v)).Nodup
  each : ∀ o ∈ os, o.l ≠ [] ∧ o.l = ds.filter fun h => fromZ es h == o.v
  all : ∀ h ∈ ds, ∃ o ∈ os, o.v = fromZ es h
theorem outIs_nil (es : List Eg) : OutIs es [] [] := ⟨.nil, by simp, by simp⟩
variable {es : List Eg} {ds : List Hf} {os : List OutE} {B : Nat} {w w0 : World} {l : List Res}
theorem oE_keys (os : List OutE) : (os.map oE).map (·.1) = os.map (·.v) := by simp
/-- The list that a half goes into, and what stays beside it. -/
structure OutAt (es : List Eg) (ds : List Hf) (os : List OutE) (v : Int) (s : Value) (L : List Hf) (o2 : List OutE) : Prop where
  get : (getA (os.map oE) v).getD slZ = s
  cut : cutA (os.map oE) v = o2.map oE
  next : ∀ (h : Hf) (s' : Value), fromZ es h = v → OutIs es (ds ++ [h]) (⟨v, s', L ++ [h]⟩ :: o2)
  len : L.length ≤ ds.length
theorem out_at (H : Own B w0 w (l ++ os.map oB)) (hO : OutIs es ds os) (v : Int) : ∃ s L o2, OutAt es ds os v s L o2 ∧ Own B w0 w (.grow 36 2 s L.length (hR L) :: (l ++ o2.map oB)) := by
  have step : ∀ (L : List Hf) (o2 : List OutE) (h : Hf) (s' : Value), fromZ es h = v → L = ds.filter (fun h => fromZ es h == v) → v ∉ o2.map (·.v) → (o2.map (·.v)).Nodup → (∀ o ∈ o2, o ∈ os) → (∀ o ∈ os, o.v ≠ v → o ∈ o2) → OutIs es (ds ++ [h]) (⟨v, s', L ++ [h]⟩ :: o2) := by
    intro L o2 h s' hf hL hv hn h1 h2
    refine ⟨by simp only [List.map_cons]; exact List.nodup_cons.2 ⟨hv, hn⟩, fun o ho => ?_, fun g hg => ?_⟩
    · rcases List.mem_cons.1 ho with rfl | ho
      · refine ⟨by simp, ?_⟩
        simp only
        rw [List.filter_append, ← hL]; simp [hf]
      · have hne : o.v ≠ v := fun q => hv (q ▸ List.mem_map.2 ⟨o, ho, rfl⟩)
        obtain ⟨a, b⟩ := hO.each o (h1 o ho)
        refine ⟨a, ?_⟩
        have hx : (fromZ es h == o.v) = false := by rw [hf]; simpa using fun q => hne q.symm
        rw [List.filter_append, ← b]
        simp [hx]
    · rcases List.mem_append.1 hg with hg | hg
      · by_cases hgv : fromZ es g = v
        · exact ⟨_, List.mem_cons_self .., hgv.symm⟩
        · obtain ⟨o, ho, e⟩ := hO.all g hg
          exact ⟨o, List.mem_cons_of_mem _ (h2 o ho (by rw [e]; exact hgv)), e⟩
      · obtain rfl := List.mem_singleton.1 hg
        exact ⟨_, List.mem_cons_self .., hf.symm⟩
  have hk := hO.nodup
  by_cases hv : v ∈ os.map (·.v)
  · obtain ⟨o, ho, hov⟩ := List.mem_map.1 hv
    obtain ⟨L1, L2, rfl⟩ := List.append_of_mem ho
    subst hov
    have hkn : (((L1 ++ o :: L2).map oE).map (·.1)).Nodup := by rw [oE_keys]; exact hk
    refine ⟨o.s, o.l, L1 ++ L2, ⟨?_, ?_, ?_, ?_⟩, ?_⟩
    · rw [(getA_some hkn).2 (by simp : (o.v, o.s) ∈ _)]; rfl
    · have : (L1 ++ o :: L2).map oE = L1.map oE ++ (o.v, o.s) :: L2.map oE := by simp
      rw [this] at hkn ⊢
      rw [cutA_mid hkn, List.map_append]
    · intro h s' hf
      have hk2 : (o.v :: (L1 ++ L2).map (·.v)).Nodup := by
        have : ((L1 ++ o :: L2).map (·.v)).Perm (o.v :: (L1 ++ L2).map (·.v)) := by
          have := (List.perm_middle (a := o) (l₁ := L1) (l₂ := L2)).map (·.v)
          rwa [List.map_cons] at this
        exact this.nodup_iff.1 hk
      have hk3 := List.nodup_cons.1 hk2
      refine step _ _ h s' hf (hO.each o (by simp)).2 hk3.1 hk3.2 (fun x hx => ?_) (fun x hx hne => ?_)
      · rcases List.mem_append.1 hx with hx | hx <;> simp [hx]
      · rcases List.mem_append.1 hx with hx | hx
        · simp [hx]
        · rcases List.mem_cons.1 hx with rfl | hx
          · exact absurd rfl hne
          · simp [hx]
    · rw [(hO.each o (by simp)).2]; exact List.length_filter_le _ _
    · refine H.perm ?_
      have h1 : ((L1 ++ o :: L2).map oB).Perm (oB o :: (L1 ++ L2).map oB) := by
        have := (List.perm_middle (a := o) (l₁ := L1) (l₂ := L2)).map oB
        rwa [List.map_cons] at this
      exact ((h1.append_left l).trans List.perm_middle).symm
  · have hno : v ∉ (os.map oE).map (·.1) := by rw [oE_keys]; exact hv
    refine ⟨slZ, [], os, ⟨?_, cutA_none hno, ?_, Nat.zero_le _⟩, by simpa [hR] using H.grow_nil 36 2⟩
    · rw [getA_none.2 hno]; rfl
    · intro h s' hf
      refine step [] os h s' hf ?_ hv hk (fun _ h => h) (fun _ h _ => h)
      symm
      rw [List.filter_eq_nil_iff]
      intro g hg hgv
      obtain ⟨o, ho, e⟩ := hO.all g hg
      exact hv (List.mem_map.2 ⟨o, ho, by rw [e]; simpa using hgv⟩)
theorem hR_add (L : List Hf) (h : Hf) : hR (L ++ [h]) = hR L ++ [.int .i64 h.e, .bool h.b] := by unfold hR; simp [h2]
/-- The list goes back among the rest. -/
theorem out_back {s : Value} {v : Int} {n : Nat} {L : List Hf} {o2 : List OutE} {X : List Value} (H : Own B w0 w (.grow 36 2 s n X :: (l ++ o2.map oB))) (hn : n = L.length) (hX : X = hR L) : Own B w0 w (l ++ (⟨v, s, L⟩ :: o2 : List OutE).map oB) := by
  subst hn hX
  exact H.perm List.perm_middle
end Go.Proofs.Ytlhmjhildlnokaa
