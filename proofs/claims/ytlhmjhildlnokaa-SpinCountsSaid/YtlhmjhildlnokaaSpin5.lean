/-
  What spin.turn's third loop keeps: the lists of what leaves each vertex, some sorted already, and what follows, so far. No walk stands here.
-/
import Derived.Test.YtlhmjhildlnokaaSpin4
import Derived.Test.YtlhmjhildlnokaaSortK
namespace Go.Proofs.Ytlhmjhildlnokaa
set_option linter.unusedVariables false
set_option linter.unusedSimpArgs false
open Go.RowKit Go.Sort Go.Shelf

structure OutW (vs : List Vt) (es : List Eg) (os : List OutE) (left : List (Int × Value)) (nx : Hf → Option Hf) : Prop where
  nodup : (os.map (·.v)).Nodup
  each : ∀ o ∈ os, o.l ≠ [] ∧ o.l.Perm (outU es o.v) ∧ (oE o ∉ left → o.l = outZ vs es o.v)
  all : ∀ h ∈ halves es, ∃ o ∈ os, o.v = fromZ es h
  sub : ∀ p ∈ left, p ∈ os.map oE
  keys : (left.map (·.1)).Nodup
  next : ∀ h, nx h = if h ∈ halves es ∧ toZ es h ∉ left.map (·.1) then some (nextZ vs es h) else none
variable {vs : List Vt} {es : List Eg} {os : List OutE}
theorem outW_start (hO : OutIs es (halves es) os) : OutW vs es os (os.map oE) (fun _ => none) := by
  refine ⟨hO.nodup, fun o ho => ?_, hO.all, fun p hp => hp, by rw [oE_keys]; exact hO.nodup, fun h => ?_⟩
  · obtain ⟨h1, h2⟩ := hO.each o ho
    exact ⟨h1, by rw [h2]; exact List.Perm.refl _, fun hn => absurd (List.mem_map.2 ⟨o, ho, rfl⟩) hn⟩
  · rw [if_neg]
    rintro ⟨hm, hk⟩
    obtain ⟨o, ho, e⟩ := hO.all (twinH h) (twin_mem hm)
    exact hk (by rw [oE_keys]; exact List.mem_map.2 ⟨o, ho, e⟩)
/-- What follows, behind k rounds of the inner loop. -/
def nxI (l : List Hf) (nx : Hf → Option Hf) (k : Nat) (h : Hf) : Option Hf :=
  match l.findIdx? (fun y => y == twinH h) with
  | some i => if i < k then some (prevC l (twinH h)) else nx h
  | none => nx h
theorem nxI_zero (l : List Hf) (nx : Hf → Option Hf) : nxI l nx 0 = nx := by
  funext h; unfold nxI; split <;> simp
theorem nxI_step {l : List Hf} {nx : Hf → Option Hf} (hn : l.Nodup) {i : Nat} {x : Hf} (hx : l[i]? = some x) : nxI l nx (i + 1) = upd (nxI l nx i) (twinH x) ((l[(i + l.length - 1) % l.length]?).getD ⟨0, false⟩) := by
  rw [← prevC_at hn hx]
  funext h
  unfold nxI upd
  by_cases hh : h = twinH x
  · subst hh
    rw [twin_twin, find_at hn hx]
    simp
  · rw [if_neg hh]
    cases hf : l.findIdx? (fun y => y == twinH h) with
    | none => simp only [hf]
    | some j =>
      simp only
      have hj : l[j]? = some (twinH h) := by
        obtain ⟨h1, h2, _⟩ := List.findIdx?_eq_some_iff_getElem.1 hf
        rw [List.getElem?_eq_getElem h1]; simpa using h2
      have hne : j ≠ i := by
        rintro rfl
        rw [hx] at hj; injection hj with hj
        exact hh (by rw [hj, twin_twin])
      rw [hf]
      simp only
      by_cases h1 : j < i
      · rw [if_pos h1, if_pos (by omega)]
      · rw [if_neg h1, if_neg (by omega)]
/-- One of those that are left. -/
theorem outW_pick {left left2 : List (Int × Value)} {k2 : Int} {q2 : Value} {nx : Hf → Option Hf} (hW : OutW vs es os left nx) (hp : left.Perm ((k2, q2) :: left2)) : ∃ L1 o L2, os = L1 ++ o :: L2 ∧ o.v = k2 ∧ o.s = q2 := by
  have := hW.sub (k2, q2) (hp.symm.subset (by simp))
  obtain ⟨o, ho, e⟩ := List.mem_map.1 this
  obtain ⟨L1, L2, rfl⟩ := List.append_of_mem ho
  injection e with e1 e2
  exact ⟨L1, o, L2, rfl, e1, e2⟩
theorem outW_next (H : RightP vs es) {left left2 : List (Int × Value)} {nx : Hf → Option Hf} {L1 L2 : List OutE} {o : OutE} (hW : OutW vs es (L1 ++ o :: L2) left nx) (hp : left.Perm (oE o :: left2)) :
    OutW vs es (L1 ++ ⟨o.v, o.s, outZ vs es o.v⟩ :: L2) left2 (nxI (outZ vs es o.v) nx (outZ vs es o.v).length) := by
  have hk := hW.nodup
  have hmap : (L1 ++ (⟨o.v, o.s, outZ vs es o.v⟩ : OutE) :: L2).map (·.v) = (L1 ++ o :: L2).map (·.v) := by simp
  have hmapE : (L1 ++ (⟨o.v, o.s, outZ vs es o.v⟩ : OutE) :: L2).map oE = (L1 ++ o :: L2).map oE := by simp
  have hkl : ((oE o :: left2).map (·.1)).Nodup := (hp.map (·.1)).nodup_iff.1 hW.keys
  rw [List.map_cons, List.nodup_cons] at hkl
  have hmem : ∀ x, x ∈ L1 ++ o :: L2 → x.v = o.v → x = o := by
    intro x hx e
    have h2 : (o.v :: (L1 ++ L2).map (·.v)).Nodup := by
      have : ((L1 ++ o :: L2).map (·.v)).Perm (o.v :: (L1 ++ L2).map (·.v)) := by
        have := (List.perm_middle (a := o) (l₁ := L1) (l₂ := L2)).map (·.v)
        rwa [List.map_cons] at this
      exact this.nodup_iff.1 hk
    have h3 := (List.nodup_cons.1 h2).1
    rcases List.mem_cons.1 ((List.perm_middle (a := o) (l₁ := L1) (l₂ := L2)).mem_iff.1 hx) with rfl | hx
    · rfl
    · exact absurd (List.mem_map.2 ⟨x, hx, e⟩) h3
  refine ⟨by rw [hmap]; exact hk, fun x hx => ?_, fun h hh => ?_, fun p hp2 => ?_, hkl.2, fun h => ?_⟩
  · have hxc : x = ⟨o.v, o.s, outZ vs es o.v⟩ ∨ (x ∈ L1 ++ o :: L2 ∧ x ∈ L1 ++ L2) := by
      rcases List.mem_append.1 hx with h | h
      · exact .inr ⟨by simp [h], by simp [h]⟩
      · rcases List.mem_cons.1 h with h | h
        · exact .inl h
        · exact .inr ⟨by simp [h], by simp [h]⟩
    rcases hxc with rfl | ⟨h1, h2⟩
    · obtain ⟨h1, h2, _⟩ := hW.each o (by simp)
      have := (out_spec H o.v).2
      refine ⟨fun e => h1 ?_, this, fun _ => rfl⟩
      simp only at e
      rw [e] at this
      exact (h2.trans this.symm).eq_nil
    · obtain ⟨h3, h4, h5⟩ := hW.each x h1
      refine ⟨h3, h4, fun hn => h5 fun hl => ?_⟩
      rcases List.mem_cons.1 (hp.subset hl) with e | e
      · have hv : x.v = o.v := congrArg (·.1) e
        have h6 : (o.v :: (L1 ++ L2).map (·.v)).Nodup := by
          have : ((L1 ++ o :: L2).map (·.v)).Perm (o.v :: (L1 ++ L2).map (·.v)) := by
            have := (List.perm_middle (a := o) (l₁ := L1) (l₂ := L2)).map (·.v)
            rwa [List.map_cons] at this
          exact this.nodup_iff.1 hk
        exact (List.nodup_cons.1 h6).1 (List.mem_map.2 ⟨x, h2, hv⟩)
      · exact hn e
  · obtain ⟨x, hx, e⟩ := hW.all h hh
    by_cases hv : x.v = o.v
    · exact ⟨⟨o.v, o.s, outZ vs es o.v⟩, by simp, by rw [← e, hv]⟩
    · refine ⟨x, ?_, e⟩
      rcases List.mem_append.1 hx with h | h
      · simp [h]
      · rcases List.mem_cons.1 h with rfl | h
        · exact absurd rfl hv
        · simp [h]
  · rw [hmapE]
    exact hW.sub p (hp.symm.subset (List.mem_cons_of_mem _ hp2))
  · have hnd := outZ_nodup H o.v
    have hpk : ∀ v, v ∈ left.map (·.1) ↔ v = o.v ∨ v ∈ left2.map (·.1) := fun v => by
      rw [(hp.map (·.1)).mem_iff, List.map_cons, List.mem_cons]
    unfold nxI
    cases hf : (outZ vs es o.v).findIdx? (fun y => y == twinH h) with
    | some i =>
      obtain ⟨hi, h2, _⟩ := List.findIdx?_eq_some_iff_getElem.1 hf
      have hm : twinH h ∈ outZ vs es o.v := by
        have h2 : (outZ vs es o.v)[i] = twinH h := by simpa using h2
        rw [← h2]; exact List.getElem_mem hi
      obtain ⟨hm1, hm2⟩ := (mem_outZ H).1 hm
      have hhm : h ∈ halves es := by have := twin_mem hm1; rwa [twin_twin] at this
      have ht : toZ es h = o.v := hm2
      simp only [hi, if_true]
      rw [if_pos ⟨hhm, by rw [ht]; exact hkl.1⟩]
      unfold nextZ
      rw [ht]
    | none =>
      simp only
      rw [hW.next h]
      have hno : h ∈ halves es → toZ es h ≠ o.v := by
        intro hh e
        have hm := twin_out H hh
        rw [e] at hm
        rw [List.findIdx?_eq_none_iff] at hf
        have := hf _ hm
        simp at this
      by_cases hh : h ∈ halves es
      · have := hno hh
        simp only [hh, true_and, hpk]
        by_cases h2 : toZ es h ∈ left2.map (·.1)
        · simp [h2]
        · simp [h2, this]
      · simp [hh]
/-- All that follows. -/
def nxM (vs : List Vt) (es : List Eg) (h : Hf) : Option Hf := if h ∈ halves es then some (nextZ vs es h) else none
/-- What leaves each vertex, in a list. -/
structure OutS (vs : List Vt) (es : List Eg) (os : List OutE) : Prop where
  nodup : (os.map (·.v)).Nodup
  each : ∀ o ∈ os, o.l ≠ [] ∧ o.l = outZ vs es o.v
  all : ∀ h ∈ halves es, ∃ o ∈ os, o.v = fromZ es h
theorem outW_end {left : List (Int × Value)} {nx : Hf → Option Hf} (hW : OutW vs es os left nx) (h0 : left = []) : OutS vs es os ∧ nx = nxM vs es := by
  subst h0
  refine ⟨⟨hW.nodup, fun o ho => ⟨(hW.each o ho).1, (hW.each o ho).2.2 (by simp)⟩, hW.all⟩, ?_⟩
  funext h
  rw [hW.next h]
  unfold nxM
  simp
/-- The halves that leave one vertex. -/
abbrev HfAt (es : List Eg) (v : Int) : Type := {h : Hf // h ∈ halves es ∧ fromZ es h = v}
def cfAt (vs : List Vt) (es : List Eg) (v : Int) (g h : HfAt es v) : Int := aroundZ (rpt vs v) (farP vs es g.1) (farP vs es h.1)
theorem cf_swo (H : RightP vs es) (v : Int) : SWO (ltOf (cfAt vs es v)) := by
  have T := tot_at H v
  have e : ∀ g h : HfAt es v, ltOf (cfAt vs es v) g h = ltAt vs es v g.1 h.1 := fun _ _ => rfl
  have irr : ∀ x : HfAt es v, ltAt vs es v x.1 x.1 = false := fun x => by
    cases h : ltAt vs es v x.1 x.1 with
    | false => rfl
    | true => have := T.asym _ _ x.2 x.2 h; rw [h] at this; cases this
  refine ⟨fun x => by rw [e]; exact irr x, fun x y z h1 h2 => ?_, fun x y z h1 h2 => ?_⟩
  · rw [e] at *
    exact T.trans _ _ _ x.2 y.2 z.2 h1 h2
  · rw [e] at *
    cases h3 : ltAt vs es v x.1 z.1 with
    | false => rfl
    | true =>
      exfalso
      by_cases hxy : x.1 = y.1
      · rw [hxy, h2] at h3; cases h3
      · rcases T.total _ _ x.2 y.2 hxy with h | h
        · rw [h] at h1; cases h1
        · by_cases hyz : y.1 = z.1
          · rw [← hyz, h1] at h3; cases h3
          · rcases T.total _ _ y.2 z.2 hyz with h4 | h4
            · rw [h4] at h2; cases h2
            · have := T.trans _ _ _ z.2 y.2 x.2 h4 h
              rw [T.asym _ _ z.2 x.2 this] at h3; cases h3
/-- A list of them. -/
theorem lift_at {v : Int} : ∀ {l : List Hf}, (∀ h ∈ l, h ∈ halves es ∧ fromZ es h = v) → ∃ xs : List (HfAt es v), xs.map (·.1) = l
  | [], _ => ⟨[], rfl⟩
  | h :: l, hl => by
    obtain ⟨xs, e⟩ := lift_at (l := l) fun x hx => hl x (by simp [hx])
    exact ⟨⟨h, hl h (by simp)⟩ :: xs, by rw [List.map_cons, e]⟩
theorem sorted_at (H : RightP vs es) {v : Int} {xs ys : List (HfAt es v)} (hx : (xs.map (·.1)).Perm (outU es v)) (hp : ys.Perm xs) (hs : ys.Pairwise (fun x y => ltOf (cfAt vs es v) y x = false)) : ys.map (·.1) = outZ vs es v := by
  refine out_sorted H ((hp.map _).trans hx) ?_
  rw [List.pairwise_map]
  exact hs
theorem hR_map {v : Int} (xs : List (HfAt es v)) : xs.flatMap (fun x => h2 x.1) = hR (xs.map (·.1)) := by
  unfold hR; rw [List.flatMap_map]
end Go.Proofs.Ytlhmjhildlnokaa
