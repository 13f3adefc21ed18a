/-
  The walk of the index's Find.
-/
import Derived.Test.YtlhmjhildlnokaaGreatMcbe00def
import Derived.Test.YtlhmjhildlnokaaGreatMc8910ffd
import Derived.Test.YtlhmjhildlnokaaGreatM4a50d798
import Derived.Test.YtlhmjhildlnokaaGreatMd6b25c4b
import Derived.Test.YtlhmjhildlnokaaGreatMfa190596
import Derived.Test.YtlhmjhildlnokaaGreatLayT
import Derived.Test.YtlhmjhildlnokaaGreatM575e54b8
import Derived.Test.YtlhmjhildlnokaaGreatM586e9777
import Derived.Laws.StructEq
import Derived.Test.YtlhmjhildlnokaaGreatM0d4adf42
import Derived.Test.YtlhmjhildlnokaaGreatM4f5187dd
import Derived.WalkMore
namespace Go.Proofs.YtlhmjhildlnokaaGreat
set_option linter.unusedVariables false
set_option linter.unusedSimpArgs false
open Go.RowKit Go.Sort Go.Shelf
variable {vs : List Vt} {es : List Eg} {S S' : List (Int × Sg)} {N N' : List Nd} {P P' : List Pc}
theorem seg_ends (H : RightP vs es) {e : Eg} (he : e ∈ es) : segZ vs e.a e.b = ⟨loP vs e, hiP vs e⟩ := by
 have hE := H.each e he
 have i1 := inP_b (rpt_in H.verts hE.2.1.2.1)
 have i2 := inP_b (rpt_in H.verts hE.2.1.2.2)
 have hne := rpt_ne H.verts hE.2.1.1 hE.2.1.2.1 hE.2.1.2.2
 have hx : Xi (rpt vs e.a) ≠ Xi (rpt vs e.b) := fun q => hne (Xi_inj i1 i2 q)
 unfold segZ loP hiP
 by_cases h : Xi (rpt vs e.a) < Xi (rpt vs e.b)
 ·rw [if_pos h, if_pos h, if_neg]
  rw [less_X i2 i1, Xr_lt]; omega
 ·rw [if_neg h, if_neg h, if_pos]
  rw [less_X i2 i1, Xr_lt]; omega
structure OfPlan (vs : List Vt) (es : List Eg) (S : List (Int × Sg)) : Prop where
 keys : (S.map (·.1)).Nodup
 mem : ∀ q ∈ S, ∃ e ∈ es, q = (e.id, segZ vs e.a e.b)
theorem vt_of {id : Int} (h : (vs.find? fun v => v.id == id).isSome = true) : ∃ v ∈ vs, rpt vs id = v.p := by
 obtain ⟨v, hv⟩ := Option.isSome_iff_exists.1 h
 exact ⟨v, List.mem_of_find?_eq_some hv, by unfold rpt; rw [hv]; rfl⟩
theorem OfPlan.ok (H : RightP vs es) (h : OfPlan vs es S) : SOk S := by
 have lnq : ∀ e ∈ es, lnS (segZ vs e.a e.b) = lnE vs e := fun e he => by rw [seg_ends H he]; rfl
 refine ⟨fun q hq => ?_, h.keys, fun q hq => ?_, fun q hq r hr hne => ?_, fun q hq r hr e he hs => ?_⟩
 ·obtain ⟨e, he, rfl⟩ := h.mem q hq
  have := (H.each e he).1
  show e.id ≠ 0
  omega
 ·obtain ⟨e, he, rfl⟩ := h.mem q hq
  rw [seg_ends H he]
  exact edge_in H he
 ·obtain ⟨e, he, rfl⟩ := h.mem q hq
  obtain ⟨f, hf, rfl⟩ := h.mem r hr
  rw [lnq e he, lnq f hf]
  exact lines_sep H he hf (fun q => hne (by rw [q]))
 ·obtain ⟨g, hg, rfl⟩ := h.mem q hq
  obtain ⟨f, hf, rfl⟩ := h.mem r hr
  simp only at hs he ⊢
  rw [lnq g hg] at hs ⊢
  rw [seg_ends H hf] at he
  have hE := H.each f hf
  obtain ⟨v1, m1, e1⟩ := vt_of hE.2.1.2.1
  obtain ⟨v2, m2, e2⟩ := vt_of hE.2.1.2.2
  have hv : ∃ v ∈ vs, e = v.p := by
   rcases ends_two vs f with ⟨h1, h2⟩ | ⟨h1, h2⟩ <;> rw [h1, h2] at he <;> rcases he with he | he
   ·exact ⟨v1, m1, he.trans e1⟩
   ·exact ⟨v2, m2, he.trans e2⟩
   ·exact ⟨v2, m2, he.trans e2⟩
   ·exact ⟨v1, m1, he.trans e1⟩
  obtain ⟨v, hv, rfl⟩ := hv
  exact off_line H hg hv (Xr_lt.1 hs.1) (Xr_lt.1 hs.2)
theorem Desc.toZ (O : SOk S) {q : Pt} (iq : InP q) {k n : Nat} {r : Ans} (h : Desc N S (Xr q) (Yr q) k n r) : DescZ N S q k n r := by
 have ts : ∀ {id : Int} {s : Sg}, (id, s) ∈ S → sgOf S id = s ∧ (turnB s.a s.b q = 1 ↔ (lnS s).at (Xr q) < Yr q) ∧ (turnB s.a s.b q = -1 ↔ Yr q < (lnS s).at (Xr q)) ∧ (turnB s.a s.b q = 0 ↔ Yr q = (lnS s).at (Xr q)) := fun {id s} hs => by
  have r := O.rng _ hs
  obtain ⟨a, b, c⟩ := turn_sign (c := q) r.1 r.2.1 iq (Xr_lt.2 r.2.2)
  have pm := turnB_pm s.a s.b q
  simp only at a b c
  refine ⟨sgOf_mem O hs, ?_, ?_, c⟩
  ·show _ ↔ (lnOf s.a s.b).at _ < _
   rw [← a]; omega
  ·show _ ↔ _ < (lnOf s.a s.b).at _
   rw [← b]; omega
 induction h with
 | leaf h hk => exact .leaf h hk
 | ptL h hk hp hx hm _ ih => exact .ptL h hk ((less_X iq hp).2 hx) hm ih
 | ptR h hk hp hx hm _ ih =>
  refine .ptR h hk ?_ hm ih
  cases e : lessB q _
  ·rfl
  ·have := (less_X iq hp).1 e; exact absurd hx (by grind)
 | lnU h hk hs hy hm _ ih =>
  obtain ⟨e, t1, _⟩ := ts hs
  exact .lnU h hk (by rw [e]; exact t1.2 hy) hm ih
 | lnD h hk hs hy hm _ ih =>
  obtain ⟨e, _, t1, _⟩ := ts hs
  exact .lnD h hk (by rw [e]; exact t1.2 hy) hm ih
 | on h hk hs hy =>
  obtain ⟨e, _, _, t1⟩ := ts hs
  exact .on h hk (by rw [e]; exact t1.2 hy)
structure InZ (S : List (Int × Sg)) (t : Tz) (q : Pt) : Prop where
 l : t.hl = true → lessB t.l q = true
 r : t.hr = true → lessB q t.r = true
 b : t.bot ≠ 0 → 0 < turnZ (sgOf S t.bot).a (sgOf S t.bot).b q
 t : t.top ≠ 0 → turnZ (sgOf S t.top).a (sgOf S t.top).b q < 0
theorem turnB_in {a b c : Pt} (ia : InP a) (ib : InP b) (ic : InP c) : turnB a b c = turnZ a b c := by unfold turnB; rw [inB_t ia, inB_t ib, inB_t ic]; rfl
theorem inZ_iff (O : SOk S) {t : Tz} (V : Val S t) {q : Pt} (iq : InP q) : InZ S t q ↔ InT S t (Xr q) (Yr q) := by
 have kb : t.bot ≠ 0 → (0 < turnZ (sgOf S t.bot).a (sgOf S t.bot).b q ↔ (botL S t).at (Xr q) < Yr q) := fun h => by
  have r := O.rng _ (V.bot h).1
  rw [← turnB_in r.1 r.2.1 iq]
  exact (turn_sign (c := q) r.1 r.2.1 iq (Xr_lt.2 r.2.2)).1
 have kt : t.top ≠ 0 → (turnZ (sgOf S t.top).a (sgOf S t.top).b q < 0 ↔ Yr q < (topL S t).at (Xr q)) := fun h => by
  have r := O.rng _ (V.top h).1
  rw [← turnB_in r.1 r.2.1 iq]
  exact (turn_sign (c := q) r.1 r.2.1 iq (Xr_lt.2 r.2.2)).2.1
 constructor
 ·rintro ⟨a, b, c, d⟩
  exact ⟨⟨fun h => (less_X (O.endIn (V.wl h).1) iq).1 (a h), fun h => (less_X iq (O.endIn (V.wr h).1)).1 (b h)⟩, fun h => (kb h).1 (c h), fun h => (kt h).1 (d h)⟩
 ·rintro ⟨⟨a, b⟩, c, d⟩
  exact ⟨fun h => (less_X (O.endIn (V.wl h).1) iq).2 (a h), fun h => (less_X iq (O.endIn (V.wr h).1)).2 (b h), fun h => (kb h).2 (c h), fun h => (kt h).2 (d h)⟩
theorem TI.find (T : TI S N P) {q : Pt} (iq : InP q) (hq : ¬ EndS S q) :
  (∃ k id sg, (id, sg) ∈ S ∧ (lnS sg).spans (Xr q) ∧ Yr q = (lnS sg).at (Xr q) ∧ DescZ N S q k 0 (.on id)) ∨
  (∃ (k i : Nat) (p : Pc), P[i]? = some p ∧ p.g = false ∧ N[p.n.toNat]? = some (lfN i) ∧ InT S p.t (Xr q) (Yr q) ∧ DescZ N S q k 0 (.leaf p.n.toNat)) := by
 rcases T.down (Xr q) (Yr q) (fun e he hx => hq (by
  have := Xi_inj iq (T.ok.endIn he) (Xr_eq.1 hx)
  rw [this]; exact he)) with ⟨k, id, sg, h1, h2, h3, h4⟩ | ⟨k, i, p, h1, h2, h3, h4⟩
 ·exact .inl ⟨k, id, sg, h1, h2, h3, h4.toZ T.ok iq⟩
 ·exact .inr ⟨k, i, p, h1, h2, T.leaf i p h1 h2, h3, h4.toZ T.ok iq⟩
theorem sgOf_perm (h : S.Perm S') (O : SOk S) (id : Int) : sgOf S id = sgOf S' id := by unfold sgOf; rw [getA_perm h O.keys]
theorem inT_perm (h : S.Perm S') (O : SOk S) {t : Tz} {x y : Rat} : InT S t x y ↔ InT S' t x y := by
 have e1 : botL S t = botL S' t := by unfold botL; rw [sgOf_perm h O]
 have e2 : topL S t = topL S' t := by unfold topL; rw [sgOf_perm h O]
 constructor
 ·rintro ⟨a, b, c⟩; exact ⟨a, by rw [← e1]; exact b, by rw [← e2]; exact c⟩
 ·rintro ⟨a, b, c⟩; exact ⟨a, by rw [e1]; exact b, by rw [e2]; exact c⟩
theorem endS_perm (h : S.Perm S') {e : Pt} : EndS S e ↔ EndS S' e := by
 unfold EndS
 constructor
 ·rintro ⟨q, hq, he⟩; exact ⟨q, h.mem_iff.1 hq, he⟩
 ·rintro ⟨q, hq, he⟩; exact ⟨q, h.mem_iff.2 hq, he⟩
theorem val_perm (h : S.Perm S') (O : SOk S) {t : Tz} (V : Val S' t) : Val S t := by
 have e1 : botL S t = botL S' t := by unfold botL; rw [sgOf_perm h O]
 have e2 : topL S t = topL S' t := by unfold topL; rw [sgOf_perm h O]
 refine ⟨fun hb => ?_, fun hb => ?_, V.lr, fun h1 h2 x hx => ?_, fun hl => ?_, fun hl => ?_, fun q hq x hx hI => ?_, V.zl, V.zr⟩
 ·rw [sgOf_perm h O]
  obtain ⟨a, b⟩ := V.bot hb
  exact ⟨h.mem_iff.2 a, b⟩
 ·rw [sgOf_perm h O]
  obtain ⟨a, b⟩ := V.top hb
  exact ⟨h.mem_iff.2 a, b⟩
 ·rw [e1, e2]; exact V.bt h1 h2 x hx
 ·rw [e1, e2]
  obtain ⟨a, b⟩ := V.wl hl
  exact ⟨(endS_perm h).2 a, b⟩
 ·rw [e1, e2]
  obtain ⟨a, b⟩ := V.wr hl
  exact ⟨(endS_perm h).2 a, b⟩
 ·exact V.free q (h.mem_iff.1 hq) x hx ((inT_perm h O).1 hI)
theorem mem_live {t : Tz} : t ∈ liveT P ↔ ∃ (i : Nat) (p : Pc), P[i]? = some p ∧ p.g = false ∧ p.t = t := by
 unfold liveT
 rw [List.mem_map]
 constructor
 ·rintro ⟨p, hp, rfl⟩
  obtain ⟨h1, h2⟩ := List.mem_filter.1 hp
  obtain ⟨i, hi⟩ := List.getElem?_of_mem h1
  exact ⟨i, p, hi, by simpa using h2, rfl⟩
 ·rintro ⟨i, p, h1, h2, rfl⟩
  exact ⟨p, List.mem_filter.2 ⟨List.mem_of_getElem? h1, by rw [h2]; rfl⟩, rfl⟩
theorem TI.nodup (T : TI S N P) : (liveT P).Nodup := by
 unfold liveT
 have h : P.Pairwise fun p q => p.g = false → q.g = false → p.t ≠ q.t := by
  rw [List.pairwise_iff_getElem]
  intro i j hi hj hij h1 h2 e
  have := T.dist i j _ _ (List.getElem?_eq_getElem hi) (List.getElem?_eq_getElem hj) h1 h2 e
  omega
 rw [List.Nodup, List.pairwise_map]
 have h2 := h.filter fun p => !p.g
 refine List.Pairwise.imp_of_mem ?_ h2
 intro a b ha hb hab
 exact hab (by simpa using (List.mem_filter.1 ha).2) (by simpa using (List.mem_filter.1 hb).2)
theorem TI.sub (T : TI S N P) (T' : TI S' N' P') (h : S.Perm S') {t : Tz} (ht : t ∈ liveT P) : t ∈ liveT P' := by
 obtain ⟨i, p, h1, h2, rfl⟩ := mem_live.1 ht
 have V := T.val i p h1 h2
 obtain ⟨x, hx, hE⟩ := V.someX (endsX S)
 obtain ⟨y, hy⟩ := V.someY hx
 rcases T'.down x y (fun e he => endsX_iff.1 hE e ((endS_perm h).2 he)) with ⟨_, id, sg, g1, g2, g3, _⟩ | ⟨_, j, p', g1, g2, g3, _⟩
 ·exact absurd (by rw [← g3]; exact hy) (V.free (id, sg) (h.mem_iff.2 g1) x g2)
 ·have := val_uniq T.ok V (val_perm h T.ok (T'.val j p' g1 g2)) hy ((inT_perm h T.ok).2 g3)
  exact mem_live.2 ⟨j, p', g1, g2, this.symm⟩
theorem perm_of_nodup {α : Type} [DecidableEq α] {l m : List α} (h1 : l.Nodup) (h2 : m.Nodup) (h : ∀ a, a ∈ l ↔ a ∈ m) : l.Perm m := (List.perm_ext_iff_of_nodup h1 h2).2 h
theorem TI.perm (T : TI S N P) (T' : TI S' N' P') (h : S.Perm S') : (liveT P).Perm (liveT P') :=
 perm_of_nodup T.nodup T'.nodup fun t => ⟨T.sub T' h, T'.sub T h.symm⟩
theorem TI.only (T : TI S N P) {q : Pt} (iq : InP q) {i j : Nat} {p p' : Pc} (h1 : P[i]? = some p) (h2 : p.g = false) (h3 : P[j]? = some p') (h4 : p'.g = false) (g : InZ S p.t q) (g' : InZ S p'.t q) : i = j := by
 have V := T.val i p h1 h2
 have V' := T.val j p' h3 h4
 exact T.dist i j p p' h1 h3 h2 h4 (val_uniq T.ok V V' ((inZ_iff T.ok V iq).1 g) ((inZ_iff T.ok V' iq).1 g'))
theorem TI.same (T : TI S N P) (T' : TI S' N' P') (h : S.Perm S') {q : Pt} (iq : InP q) :
  (∀ {id id' sg sg'}, (id, sg) ∈ S → (id', sg') ∈ S' → (lnS sg).spans (Xr q) → (lnS sg').spans (Xr q) → Yr q = (lnS sg).at (Xr q) → Yr q = (lnS sg').at (Xr q) → id = id') ∧
  (∀ {id sg} {j : Nat} {p' : Pc}, (id, sg) ∈ S → (lnS sg).spans (Xr q) → Yr q = (lnS sg).at (Xr q) → P'[j]? = some p' → p'.g = false → InT S' p'.t (Xr q) (Yr q) → False) ∧
  (∀ {i j : Nat} {p p' : Pc}, P[i]? = some p → p.g = false → InT S p.t (Xr q) (Yr q) → P'[j]? = some p' → p'.g = false → InT S' p'.t (Xr q) (Yr q) → p.t = p'.t) := by
 refine ⟨fun {id id' sg sg'} h1 h2 s1 s2 e1 e2 => ?_, fun {id sg j p'} h1 s1 e1 g1 g2 g3 => ?_, fun {i j p p'} h1 h2 h3 g1 g2 g3 => ?_⟩
 ·by_cases e : (id, sg) = (id', sg')
  ·exact congrArg Prod.fst e
  ·exact absurd (e1.symm.trans e2) (T.ok.sep _ h1 _ (h.mem_iff.2 h2) e _ s1 s2)
 ·have V' := T'.val j p' g1 g2
  exact V'.free _ (h.mem_iff.1 h1) _ s1 (by rw [← e1]; exact g3)
 ·exact val_uniq T.ok (T.val i p h1 h2) (val_perm h T.ok (T'.val j p' g1 g2)) h3 ((inT_perm h T.ok).2 g3)
variable {vs : List Vt} {es : List Eg} {S S' : List (Int × Sg)} {N N' : List Nd} {P P' : List Pc}
variable {vs : List Vt} {es : List Eg} {L L' : List (Int × Sg)} {X Y : IxS} {os : List Int}
theorem PutsR.ti (H : RightP vs es) (h : PutsR L X) : OfPlan vs es L → TI L X.N X.P := by
 induction h with
 | nil => exact fun _ => TI.start
 | put h hid hp ih =>
  intro O
  have O' : OfPlan vs es _ := ⟨(List.nodup_cons.1 O.keys).2, fun q hq => O.mem q (List.mem_cons_of_mem _ hq)⟩
  obtain ⟨all, h1, h2, h3, h4, _⟩ := hp
  rw [h.S_] at h1
  rw [h2, h3]
  exact TI.put ⟨O.ok H, ih O', h1⟩
theorem getA_cons2 {K V : Type} [DecidableEq K] (A : List (K × V)) (k k' : K) (v : V) : getA ((k, v) :: A) k' = if k' = k then some v else getA A k' := by
 have : ∀ (l : List (K × V)) (i : Nat), (firstI k' l (i + 1)).map (·.2) = (firstI k' l i).map (·.2) := by
  intro l
  induction l with
  | nil => intro i; rfl
  | cons a l ih =>
   intro i
   obtain ⟨a1, a2⟩ := a
   unfold firstI
   split
   ·rfl
   ·exact ih (i + 1)
 unfold getA
 rw [firstI]
 split
 ·rfl
 ·exact this A 0
theorem getA_cut {K V : Type} [DecidableEq K] (k k' : K) : ∀ (A : List (K × V)), getA (cutA A k) k' = if k' = k then none else getA A k'
 | [] => by simp [cutA, getA, firstI]
 | (a, v) :: A => by
  have ih := getA_cut k k' A
  by_cases e : a = k
  ·have : cutA ((a, v) :: A) k = cutA A k := by unfold cutA; rw [List.filter_cons_of_neg (by simpa using e)]
   rw [this, ih, getA_cons2]
   subst e
   split
   ·rfl
   ·rfl
  ·have : cutA ((a, v) :: A) k = (a, v) :: cutA A k := by unfold cutA; rw [List.filter_cons_of_pos (by simpa using e)]
   rw [this, getA_cons2, getA_cons2, ih]
   by_cases h1 : k' = a
   ·rw [if_pos h1, if_pos h1, if_neg (by rw [h1]; exact e)]
   ·rw [if_neg h1, if_neg h1]
theorem PutsR.ends (h : PutsR L X) (p : Pt) : (getA X.E p).getD false = true ↔ EndS L p := by
 induction h with
 | nil =>
  constructor
  ·intro h; simp [ix0, getA, firstI] at h
  ·rintro ⟨q, hq, _⟩; simp at hq
 | @put l X Y id s h hid hp ih =>
  obtain ⟨all, _, _, _, _, h5⟩ := hp
  rw [h5, getA_cons2, getA_cut, getA_cons2, getA_cut]
  constructor
  ·intro g
   by_cases e : p = s.b
   ·exact ⟨(id, s), by simp, .inr e⟩
   ·rw [if_neg e, if_neg e] at g
    by_cases e2 : p = s.a
    ·exact ⟨(id, s), by simp, .inl e2⟩
    ·rw [if_neg e2, if_neg e2] at g
     exact (ih.1 g).cons
  ·rintro ⟨q, hq, hp⟩
   rcases List.mem_cons.1 hq with rfl | hq
   ·rcases hp with rfl | rfl
    ·by_cases e : s.a = s.b
     ·rw [if_pos e]; rfl
     ·rw [if_neg e, if_neg e, if_pos rfl]; rfl
    ·rw [if_pos rfl]; rfl
   ·have := ih.2 ⟨q, hq, hp⟩
    by_cases e : p = s.b
    ·rw [if_pos e]; rfl
    ·rw [if_neg e, if_neg e]
     by_cases e2 : p = s.a
     ·rw [if_pos e2]; rfl
     ·rw [if_neg e2, if_neg e2]; exact this
theorem segs_of (hid : ∀ id ∈ os, (es.find? fun e => e.id == id).isSome = true) (hn : os.Nodup) : OfPlan vs es (segsOf vs es os).reverse := by
 refine ⟨?_, fun q hq => ?_⟩
 ·rw [List.map_reverse, segs_keys]; exact (List.reverse_perm os).nodup_iff.2 hn
 ·rw [List.mem_reverse] at hq
  unfold segsOf at hq
  obtain ⟨id, hi, rfl⟩ := List.mem_map.1 hq
  obtain ⟨x, y, h1, h2⟩ := edge_find (hid id hi)
  exact ⟨_, h2, by unfold segI; rw [h1]⟩
theorem BldI.ti (H : RightP vs es) (I : BldI vs es os X) : TI (segsOf vs es os).reverse X.N X.P := I.puts.ti H (segs_of I.ids I.nodup)
def edgeL (vs : List Vt) (es : List Eg) : List (Int × Sg) := es.map fun e => (e.id, segZ vs e.a e.b)
theorem ids_nodup (H : RightP vs es) : (es.map (·.id)).Nodup := by
 rw [List.Nodup, List.pairwise_map]
 exact H.two.imp fun h => by have := h.1; omega
theorem find_edge (H : RightP vs es) {e : Eg} (he : e ∈ es) : (es.find? fun f => f.id == e.id) = some e := by
 have hs : (es.find? fun f => f.id == e.id).isSome = true := List.find?_isSome.2 ⟨e, he, by simp⟩
 obtain ⟨x, y, h1, h2⟩ := edge_find hs
 rw [h1]
 have hn := ids_nodup H
 obtain ⟨i, hi⟩ := List.getElem?_of_mem h2
 obtain ⟨j, hj⟩ := List.getElem?_of_mem he
 have : i = j := (List.getElem?_inj (l := es.map (·.id)) (by rw [List.length_map]; exact (List.getElem?_eq_some_iff.1 hi).1) hn).1 (by rw [List.getElem?_map, List.getElem?_map, hi, hj]; rfl)
 rw [this, hj] at hi
 exact hi.symm
theorem ord_perm (H : RightP vs es) (O : OrdP es os) : os.Perm (es.map (·.id)) := by
 have sub : ∀ id ∈ os, id ∈ es.map (·.id) := fun id hi => by
  obtain ⟨x, y, _, h2⟩ := edge_find (O.2.1 id hi)
  exact List.mem_map.2 ⟨_, h2, rfl⟩
 have key : ∀ (l m : List Int), l.Nodup → (∀ x ∈ l, x ∈ m) → l.length = m.length → l.Perm m := by
  intro l
  induction l with
  | nil => intro m _ _ h; rw [List.length_eq_zero_iff.1 h.symm]
  | cons a l ih =>
   intro m h1 h2 h3
   have ha := h2 a (by simp)
   have h1' := List.nodup_cons.1 h1
   have hl := List.length_pos_of_mem ha
   have := ih (m.erase a) h1'.2 (fun x hx => (List.mem_erase_of_ne (by rintro rfl; exact h1'.1 hx)).2 (h2 x (by simp [hx]))) (by
    rw [List.length_erase_of_mem ha]; simp only [List.length_cons] at h3; omega)
   exact (this.cons a).trans (List.perm_cons_erase ha).symm
 exact key os _ O.2.2 sub (by rw [List.length_map]; exact O.1)
theorem segs_perm (H : RightP vs es) (O : OrdP es os) : (segsOf vs es os).reverse.Perm (edgeL vs es) := by
 refine (List.reverse_perm _).trans ?_
 unfold segsOf
 refine ((ord_perm H O).map _).trans ?_
 rw [List.map_map]
 unfold edgeL
 have : es.map ((fun id => (id, segI vs es id)) ∘ fun x => x.id) = es.map fun e => (e.id, segZ vs e.a e.b) := List.map_congr_left fun e he => by
  show (e.id, segI vs es e.id) = _
  unfold segI
  rw [find_edge H he]
 rw [this]
theorem trap9x1 {P Q : Prop} (k : Q) (h : Hold Q → P := by (intro kk; guard_target = wpList _ _ _ (Oper.mk _ (.call { callee := .builtin .append, args := _, argTypes := _ }) _ _ _ _ :: _) _ _; (with_reducible refine BigFrame.wpList_want ?_ (fun K hK => ?_)); exact rfl; refine o_append (row := ?_) (n := ?_) (xs := ?_) (l' := ?_) infoTz rfl rfl rfl H ?_ rfl ?_ ?_ (by kernel_rfl) rfl (by decide) ?_ ?_ ?_ (fun v2 w3 H2 hn => hK _ _ ?_); rotate_left 4; (repeat first | exact .head _ | apply List.Mem.tail); (focus (simp; done)); (focus (intro _; (exact r2))); exact rfl; exact (by unfold maxLen; omega); exact (by omega); clear hK K hn; simp only [List.take_succ_cons, List.take_zero, Nat.one_mul] at H2; simp only [Act.put, List.setIfInBounds_toArray, List.set_cons_succ, List.set_cons_zero]; revert H2; revert w3; revert v2; exact kk.out)) : P := h ⟨k⟩
theorem trap9x2 {P Q : Prop} (k : Q) (h : Hold Q → P := by (intro kk; guard_target = wpList _ _ _ (Oper.mk _ (.load _ _) _ _ _ _ :: _) _ _; (with_reducible refine BigFrame.wpList_want ?_ (fun K hK => ?_)); exact rfl; (refine o_loadPz (t0 := ?_) (t1 := ?_) (t2 := ?_) (t3 := ?_) (t4 := ?_) (t5 := ?_) (t6 := ?_) (t7 := ?_) (t8 := ?_) (t9 := ?_) rfl rfl H ?_ ?_ ?_ (hK _ _ ?_); rotate_left 10; (repeat first | exact .head _ | apply List.Mem.tail); (focus (intro _; simp; done)); (focus (intro _; simp; done))); clear hK K; simp only [Act.put, List.setIfInBounds_toArray, List.set_cons_succ, List.set_cons_zero]; exact kk.out)) : P := h ⟨k⟩
theorem trap9g3 {P Q : Prop} (k : Q) (h : Hold Q → P := by (intro kk; (first | (guard_target = wpList _ _ _ (Oper.mk _ (.load _ _) _ _ _ _ :: _) _ _; exact trap9x2 kk.out) | (guard_target = wpList _ _ _ (Oper.mk _ (.load _ _) _ _ _ _ :: _) _ _; exact a15dc6b3 kk.out)))) : P := h ⟨k⟩
theorem trap9r1 {P Q : Prop} (k : Q) (h : Hold Q → InR 1 0 (.q 0 (.q 1 (.q 2 (.q 3 (.q 4 (.q 5 (.q 6 (.q 7 (.q 8 (.q 9 (.q 10 (.q 11 (.q 12 (.e 13 (.e 14 (.q 15 .nil)))))))))))))))) P := by exact aRC0) : P := h ⟨k⟩
set_option maxRecDepth 100000 in
set_option maxHeartbeats 8000000 in
theorem cmpA_any (s t : Tz) (w : World) : Calls Tryz.prog 33 #[tzV s, tzV t] w fun e w' => e = .returned (.int .i64 (allZ s t)) ∧ Below w.heap.size w w' := by
 obtain ⟨st, sb, shl, shr, ⟨slx, sly⟩, ⟨srx, sry⟩⟩ := s
 obtain ⟨tt, tb, thl, thr, ⟨tlx, tly⟩, ⟨trx, try_⟩⟩ := t
 simp only [tzV]
 have H := Own.start w
 have h1 := fun w => lefts_any ⟨st, sb, shl, shr, ⟨slx, sly⟩, ⟨srx, sry⟩⟩ ⟨tt, tb, thl, thr, ⟨tlx, tly⟩, ⟨trx, try_⟩⟩ w
 simp only [tzV] at h1
 have hz : allZ ⟨st, sb, shl, shr, ⟨slx, sly⟩, ⟨srx, sry⟩⟩ ⟨tt, tb, thl, thr, ⟨tlx, tly⟩, ⟨trx, try_⟩⟩ = orZ [leftsZ ⟨st, sb, shl, shr, ⟨slx, sly⟩, ⟨srx, sry⟩⟩ ⟨tt, tb, thl, thr, ⟨tlx, tly⟩, ⟨trx, try_⟩⟩, cmpZ sb tb, cmpZ st tt] := rfl
 generalize leftsZ ⟨st, sb, shl, shr, ⟨slx, sly⟩, ⟨srx, sry⟩⟩ ⟨tt, tb, thl, thr, ⟨tlx, tly⟩, ⟨trx, try_⟩⟩ = u0 at *
 have h2 := fun w => cmpCompare_any sb tb w
 have h3 := fun w => cmpCompare_any st tt w
 generalize cmpZ sb tb = u1 at *
 generalize cmpZ st tt = u2 at *
 have HZ := Lib.hid hz
 clear hz
 go_enter Tryz.func33, Tryz.ntmps33
 have tk0 : True := trivial
 have tk1 : True := trivial
 have tk2 : True := trivial
 go_wp2_with (first
  | (go_at_call 34; (with_reducible refine (cmpOr3 H).mono ?_); rintro e w3 ⟨rfl, hb⟩; replace H := H.ext hb; clear hb; dsimp only; (refine a8c34bfe ?_; clear hK K))
  | (guard_target = Code.wp _ (Code.region 1 _ true) _ _ _; refine trap9r1 ?_; clear H; (try clear w2); intro w2 H)
  | ((first | guard_target = wpList _ _ _ (_ :: _) _ _ | guard_target = wpTreeC _ _ _ _ _ _ _); (first | (refine aaad3d59 ?_) | (refine aeebfb80 ?_; intro b2; clear H; (try clear w2); intro w2 H; (first | (clear tk0; rename Nat => b1) | (clear tk1; rename Nat => b2) | (clear tk2; rename Nat => b3))) | (guard_target = wpTreeC _ _ _ (Tr.q _ _) _ _ _; (with_reducible refine treeC_call (v := ?_) (o := ?_) (aK H) ?_ ?_ (fun w3 H K hK => ?_) ?_); rotate_left 2; exact rfl; exact rfl; (focus (simp only [List.getElem_toArray, List.getElem_cons_succ, List.getElem_cons_zero]; (go_big_op; (first | (go_at_call 35; (with_reducible refine (h1 _).mono ?_); rintro e w3 ⟨rfl, hb⟩; dsimp only; exact aE) | (go_at_call 36; (with_reducible refine (h2 _).mono ?_); rintro e w3 ⟨rfl, hb⟩; dsimp only; exact aE) | (go_at_call 36; (with_reducible refine (h3 _).mono ?_); rintro e w3 ⟨rfl, hb⟩; dsimp only; exact aE))))); refine a75ac28e ?_) | (guard_target = wpTreeC _ _ _ Tr.nil _ _ _; refine treeC_nil H ?_; clear H; (try clear w2); intro w2 H) | (refine abe83802 ?_; clear H; (try clear w2); intro w2 H; intro K hK))))
 go_ret
 exact ⟨by rw [HZ.out]; rfl, H.below⟩
theorem sizeOf_tz (w : World) : (Go.sizeOf 78).run Tryz.prog w = .ok 8 w := by kernel_rfl
theorem agg_tz (w : World) : (isAgg 78).run Tryz.prog w = .ok true w := by kernel_rfl
theorem enter_all (args : Array Value) (w : World) : (callFunc 33 args).run Tryz.prog w = .ok (.enter 33 args) w := by kernel_rfl
theorem allF_swo : SWO (ltOf allZ) :=
 ⟨fun a => ltA_swo.1 a, fun {a b c} h g => ltA_swo.2.1 a b c h g, fun {a b c} h g => ltA_swo.2.2 a b c h g⟩
def tz0 : Tz := ⟨0, 0, false, false, ⟨0, 0⟩, ⟨0, 0⟩⟩
theorem sortT_any {B : Nat} {w0 w : World} {rest : List Res} {n : Nat} {v : Value} {L : List Tz} (hn : n = L.length) (hl : n ≤ 1000000) (H : Own B w0 w (.grow 78 8 v n (tR L) :: rest)) :
  Calls Tryz.prog 32 #[v, .func (.func 33) #[] #[]] w fun r w' =>
   r = .returned (.tuple #[]) ∧ ∃ L' : List Tz, L'.Perm L ∧ L'.Pairwise (fun a b => ltA b a = false) ∧ Own B w0 w' (.grow 78 8 v n (tR L') :: rest) := by
 by_cases hpos : n = 0
 ·subst hpos
  have hnil : L = [] := List.length_eq_zero_iff.1 hn.symm
  subst hnil
  obtain ⟨A, c, rfl⟩ := H.growForm m0
  refine (AnyF.slices_SortFunc_none (P := Tryz.prog) { sortT with } A c _ w).mono ?_
  rintro r w' ⟨rfl, rfl⟩
  exact ⟨rfl, [], .refl _, .nil, H⟩
 letI : Inhabited Tz := ⟨tz0⟩
 obtain ⟨b, cap, rfl⟩ := H.growSome m0 (by omega) (by decide)
 have := sortK_any (enc := tz8) sortT (by decide) agg_tz sizeOf_tz (fun _ => rfl) (fun x u hu => by
   simp only [tz8, List.mem_cons, List.not_mem_nil, or_false] at hu
   rcases hu with rfl | rfl | rfl | rfl | rfl | rfl | rfl | rfl <;> rfl) allZ allF_swo 33 #[] enter_all hn hl H (fun W _ x y => cmpA_any x y W)
 refine this.mono ?_
 rintro r w' ⟨rfl, ys, h1, h2, H'⟩
 exact ⟨rfl, ys, h1, h2, H'⟩
theorem liveT_step {P : List Pc} {j : Nat} {p : Pc} (h : P[j]? = some p) : liveT (P.take (j + 1)) = if p.g = true then liveT (P.take j) else liveT (P.take j) ++ [p.t] := by
 unfold liveT
 rw [List.take_add_one, h, List.filter_append, List.map_append]
 cases hg : p.g <;> simp [hg]
theorem liveT_len (P : List Pc) (j : Nat) : (liveT (P.take j)).length ≤ j := by
 unfold liveT
 rw [List.length_map]
 exact Nat.le_trans (List.length_filter_le _ _) (by rw [List.length_take]; omega)
theorem tR_one (t : Tz) : tR [t] = [.int .i64 t.top, .int .i64 t.bot, .bool t.hl, .bool t.hr, .int .i64 t.l.x, .int .i64 t.l.y, .int .i64 t.r.x, .int .i64 t.r.y] := rfl
set_option maxRecDepth 100000 in
set_option maxHeartbeats 16000000 in
theorem tall_any {B : Nat} {w0 w : World} {l : List Res} {bx ks ke n m cn cp dn dp : Nat} {P : List Pc} (hm : m = P.length) (hml : m ≤ 1000000) (H : Own B w0 w (xB bx ks ke n m cn cp dn dp :: pG dp m cp P :: l)) :
  Calls Tryz.prog 12 #[.pointer (some ⟨bx, 0, none⟩)] w fun e w' => ∃ A k c L, e = .returned (.slice A k c) ∧ k = L.length ∧ AllP P L ∧ Own B w0 w' (.grow 78 8 (.slice A k c) k (tR L) :: xB bx ks ke n m cn cp dn dp :: pG dp m cp P :: l) := by
 simp only [xB, pG] at H ⊢
 have HM := Lib.hid hm
 clear hm
 go_enter Tryz.func12, Tryz.ntmps12
 have tk0 : True := trivial
 go_wp2_with (guard_target = wpList _ _ _ (_ :: _) _ _; (refine a15dc6b3 ?_))
 have H := H.grow_nil 78 8
 go_loopg [13, 3] m (fun k i v wr => k ≤ m ∧ i = .int .i64 ((m - k : Nat) : Int) ∧ ∃ q, q = (liveT (P.take (m - k))).length ∧ Own B w0 wr (.grow 78 8 v q (tR (liveT (P.take (m - k)))) :: .cells bx [.slice (some ⟨dn, 0, none⟩) n cn, .slice (some ⟨dp, 0, none⟩) m cp, .map (some ks), .map (some ke)] :: .grow 80 10 (.slice (some ⟨dp, 0, none⟩) m cp) m (pR P) :: l))
 case atStart => exact ⟨Nat.le_refl _, by simp, 0, by rw [Nat.sub_self]; rfl, by rw [Nat.sub_self]; exact H⟩
 case round =>
  clear H
  obtain ⟨hk, rfl, q, hq, H⟩ := hrel
  by_cases hlt : 0 < gk
  ·obtain ⟨j, hj⟩ : ∃ j, m - gk = j := ⟨_, rfl⟩
   have hjl : j < m := by omega
   rw [hj] at H hq ⊢
   obtain ⟨p, he⟩ : ∃ p, P[j]? = some p := ⟨_, List.getElem?_eq_getElem (by have := HM.out; omega)⟩
   have hst := liveT_step he
   obtain ⟨⟨tp, bt, hl, hr, ⟨lx, ly⟩, ⟨rx, ry⟩⟩, nd, gn⟩ := p
   have hp := p_grow (n := m) (b := dp) (c := cp) he
   simp only [pc10] at hp
   have hql : q ≤ j := by rw [hq]; exact liveT_len _ _
   generalize liveT (P.take j) = D at H hq hst
   have HST := Lib.hid hst
   have HJ := Lib.hid hj
   have HQ := Lib.hid hq
   clear he hst hj hq
   cases gn
   ·have tk0 : True := trivial
    go_wp2_with (guard_target = wpList _ _ _ (_ :: _) _ _; (first | (refine trap9x1 ?_; intro v2; clear H; (try clear w2); intro w2 H) | (refine trap9g3 ?_) | (refine a181aa22 ?_; clear H; (try clear w2); intro w2 H) | (refine a9475ade ?_; intro b2; clear H; (try clear w2); intro w2 H; (clear tk0; rename Nat => b2))))
    go_roundg (gk - 1)
    case rel =>
     refine ⟨by omega, by have := HJ.out; congr 1; omega, q + 1, ?_, ?_⟩
     ·rw [show m - (gk - 1) = j + 1 by have := HJ.out; omega, HST.out, if_neg (by simp), List.length_append, HQ.out]; rfl
     ·rw [show m - (gk - 1) = j + 1 by have := HJ.out; omega, HST.out, if_neg (by simp), tR_app, tR_one]
      exact (aW H)
    case measure => omega
   ·have tk0 : True := trivial
    go_wp2_with (guard_target = wpList _ _ _ (_ :: _) _ _; (first | (refine trap9g3 ?_) | (refine a181aa22 ?_; clear H; (try clear w2); intro w2 H) | (refine a9475ade ?_; intro b2; clear H; (try clear w2); intro w2 H; (clear tk0; rename Nat => b2))))
    go_roundg (gk - 1)
    case rel =>
     refine ⟨by omega, by have := HJ.out; congr 1; omega, q, ?_, ?_⟩
     ·rw [show m - (gk - 1) = j + 1 by have := HJ.out; omega, HST.out, if_pos trivial, HQ.out]
     ·rw [show m - (gk - 1) = j + 1 by have := HJ.out; omega, HST.out, if_pos trivial]
      exact (aW H)
    case measure => omega
  ·obtain rfl : gk = 0 := by omega
   rw [Nat.sub_zero, List.take_of_length_le (by have := HM.out; omega)] at hq H
   have hql : q ≤ 1000000 := by
    rw [hq]
    have := liveT_len P P.length
    rw [List.take_length] at this
    have := HM.out; omega
   have HQ := Lib.hid hq
   go_wp2_with (go_at_call 32; (with_reducible refine (sortT_any hq hql H).mono ?_); rintro e w3 ⟨rfl, L, hp, hs, H2⟩; replace H := H2; clear H2; dsimp only)
   obtain ⟨A5, c5, rfl⟩ := H.growForm m0
   go_ret
   exact ⟨A5, q, c5, L, rfl, by rw [HQ.out, hp.length_eq], ⟨hp, hs⟩, (aW H)⟩
theorem wf_u8 {n : Int} (h : (Lit.int .u8 n).wf = true) : 0 ≤ n ∧ n < 256 := by
 have := bounds_u8 h
 omega
theorem ordP_of {vs : List Vt} {es : List Eg} {os : List Int} (H : RightP vs es) (h : os.Perm (es.map (·.id))) : OrdP es os := by
 refine ⟨by rw [h.length_eq, List.length_map], fun id hi => ?_, h.nodup_iff.2 (ids_nodup H)⟩
 obtain ⟨e, he, rfl⟩ := List.mem_map.1 (h.mem_iff.1 hi)
 exact List.find?_isSome.2 ⟨e, he, by simp⟩
theorem perm_len {es : List Eg} {os : List Int} {m : Nat} (h : os.Perm (es.map (·.id))) (hm : m = es.length) (hl : m ≤ 40) : os.length ≤ 40 := by rw [h.length_eq, List.length_map, ← hm]; exact hl
theorem build_yesR {vs : List Vt} {es : List Eg} (hr : rightB vs es = true) (os : List Int) (A A2 A3 : Option Addr) (n m q : Nat) (c c2 c3 : Nat) (hn : n = vs.length) (hm : m = es.length) (hq : q = os.length) (hl : n ≤ 1000000) (hl2 : m ≤ 40) (hc2 : m ≤ c2) (hcc : c2 ≤ maxLen) (w : World) (hp : os.Perm (es.map (·.id))) (hs : Sl (fun _ => False) w A (vR vs)) (hs2 : Sl (fun _ => False) w A2 (eR es)) (hs3 : Sl (fun _ => False) w A3 (oR os)) :
  Calls Tryz.prog 6 #[.agg #[.slice A n c, .slice A2 m c2], .slice A3 q c3] w fun e w' => ∃ X bx ks ke cn cp dn dp, e = .returned (.tuple #[.pointer (some ⟨bx, 0, none⟩), .int .i64 0]) ∧ BldI vs es os X ∧ Own w.heap.size w w' (xL bx ks ke cn cp dn dp X []) := by
 refine (build_any vs es os A A2 A3 n m q c c2 c3 (fun _ => False) w hn hm hq hs hs2 hs3 (fun _ h => h.elim) hl hl2 hc2 hcc).mono ?_
 rintro e w' (⟨h, _⟩ | ⟨_, h⟩)
 ·unfold buildB at h
  rw [hr, decide_eq_true (ordP_of (rightT_P hr) hp)] at h
  cases h
 ·exact h
theorem build_noR {vs : List Vt} {es : List Eg} (hr : rightB vs es = false) (os : List Int) (A A2 A3 : Option Addr) (n m q : Nat) (c c2 c3 : Nat) (hn : n = vs.length) (hm : m = es.length) (hq : q = os.length) (hl : n ≤ 1000000) (hl2 : m ≤ 40) (hc2 : m ≤ c2) (hcc : c2 ≤ maxLen) (w : World) (hs : Sl (fun _ => False) w A (vR vs)) (hs2 : Sl (fun _ => False) w A2 (eR es)) (hs3 : Sl (fun _ => False) w A3 (oR os)) :
  Calls Tryz.prog 6 #[.agg #[.slice A n c, .slice A2 m c2], .slice A3 q c3] w fun e w' => e = .returned (.tuple #[.pointer none, .int .i64 1]) ∧ Below w.heap.size w w' := by
 refine (build_any vs es os A A2 A3 n m q c c2 c3 (fun _ => False) w hn hm hq hs hs2 hs3 (fun _ h => h.elim) hl hl2 hc2 hcc).mono ?_
 rintro e w' (⟨_, h⟩ | ⟨h, _⟩)
 ·exact h
 ·unfold buildB at h
  rw [hr] at h
  cases h
theorem bld_ixN {vs : List Vt} {es : List Eg} {os : List Int} {X : IxS} (I : BldI vs es os X) (h : os.length ≤ 40) : IxN os.length X.N X.P := by
 have e : ((segsOf vs es os).reverse).length = os.length := by rw [List.length_reverse]; unfold segsOf; rw [List.length_map]
 have := I.puts.ixN (by rw [e]; exact h)
 rw [e] at this
 exact this
theorem bld_sizes {vs : List Vt} {es : List Eg} {os : List Int} {X : IxS} (I : BldI vs es os X) (h : os.length ≤ 40) : X.P.length ≤ 1000000 ∧ X.N.length ≤ 1000000 ∧ liveN X.P ≤ 3 * os.length + 1 := by
 have J := bld_ixN I h
 have h1 := J.pl
 have h2 := J.nl
 exact ⟨by omega, by omega, J.live⟩
end Go.Proofs.YtlhmjhildlnokaaGreat
namespace Go.Proofs.YtlhmjhildlnokaaGreat
set_option linter.unusedVariables false
variable {P : Program}
structure FldEq where
 ty : TypeId
 off : Nat
 x : Value
 y : Value
 b : Bool
structure FldEq.ok (P : Program) (d : Nat) (xs ys : Array Value) (f : FldEq) : Prop where
 px : ∀ w, (part f.ty xs f.off).run P w = .ok f.x w
 py : ∀ w, (part f.ty ys f.off).run P w = .ok f.y w
 eq : ∀ w, (Op.equalIn d f.ty f.x f.y).run P w = .ok f.b w
theorem run_eqFields (d : Nat) (xs ys : Array Value) : ∀ (fs : List Field) (l : List FldEq), fs.map (fun f => (f.name == "_", f.type, f.offset)) = l.map (fun f => (false, f.ty, f.off)) → (∀ f ∈ l, f.ok P d xs ys) →
  ∀ w, (Op.eqFields d xs ys fs).run P w = .ok (l.all (·.b)) w
 | [], [], _, _, w => by simp [Op.eqFields]
 | [], _ :: _, h, _, _ => by simp at h
 | _ :: _, [], h, _, _ => by simp at h
 | f :: fs, g :: l, h, hl, w => by
  simp only [List.map_cons, List.cons.injEq, Prod.mk.injEq] at h
  obtain ⟨⟨h1, h2, h3⟩, h⟩ := h
  have hg := hl g (by simp)
  have ih := run_eqFields d xs ys fs l h (fun f hf => hl f (List.mem_cons_of_mem _ hf)) w
  have hn : f.name ≠ "_" := by simpa using h1
  unfold Op.eqFields
  rw [if_pos hn]
  simp only [Sem.run_bind, h2, h3, hg.px, hg.py, hg.eq, Result.andThen_ok, List.all_cons]
  cases hb : g.b with
  | false => simp
  | true => simp [ih]
theorem eqS_in {d : Nat} {T : TypeId} {xs ys : Array Value} (l : List FldEq) (hu : P.underlying T = some (.struct (P.fieldsOf T))) (hh : P.stoodInHeld T = false)
  (hf : (P.fieldsOf T).toList.map (fun f => (f.name == "_", f.type, f.offset)) = l.map (fun f => (false, f.ty, f.off))) (hl : ∀ f ∈ l, f.ok P d xs ys) (w : World) :
  (Op.equalIn (d + 1) T (.agg xs) (.agg ys)).run P w = .ok (l.all (·.b)) w := by
 rw [run_equalIn_struct w d _ _ _ hu hh]
 exact run_eqFields d xs ys _ l hf hl w
theorem part_cell {T : TypeId} {cs : Array Value} {i : Nat} {v : Value} (ha : ∀ w, (isAgg T).run P w = .ok false w) (h : cs[i]? = some v) (w : World) : (part T cs i).run P w = .ok v w := by
 unfold part
 simp [go_sem, ha, h]
theorem eqS_eql {T : TypeId} {xs ys : Array Value} {v : Bool} (h : ∀ w, (Op.equalIn 10000 T (.agg xs) (.agg ys)).run P w = .ok v w) (w : World) : (binOp .eql T (.agg xs) (.agg ys)).run P w = .ok (.bool v) w := by
 simp only [binOp]
 simp [Op.equal, Op.maxDepth, h w]
end Go.Proofs.YtlhmjhildlnokaaGreat
namespace Go.Proofs.YtlhmjhildlnokaaGreat
set_option linter.unusedVariables false
set_option linter.unusedSimpArgs false
open Go.RowKit Go.Sort Go.Shelf
theorem trap8x2 {P Q : Prop} (k : Q) (h : Hold Q → P := by (intro kk; guard_target = wpTreeC _ _ _ (Tr.q _ _) _ _ _; (with_reducible refine treeC_quiet (o := ?_) (aK H) ?_ ?_ ?_ (fun K hK => ?_)); rotate_left 1; exact rfl; exact rfl; exact rfl; simp only [List.getElem_toArray, List.getElem_cons_succ, List.getElem_cons_zero]; (guard_target = Oper.quiet _ (Oper.mk _ (.lookup _ _ _ _) _ _ _ _) _ _ _; (refine q_endGet (m := ?_) rfl rfl rfl ?_ (hK _ ?_); rotate_left 1; (repeat first | exact .head _ | apply List.Mem.tail)); clear hK K; simp only [Act.put, List.setIfInBounds_toArray, List.set_cons_succ, List.set_cons_zero, X0, X1, X2, X3]); exact kk.out)) : P := h ⟨k⟩
theorem trap8g3 {P Q : Prop} (k : Q) (h : Hold Q → P := by (intro kk; (first | (guard_target = wpList _ _ _ (Oper.mk _ (.load _ _) _ _ _ _ :: _) _ _; exact a2601604 kk.out) | (guard_target = wpTreeC _ _ _ (Tr.q _ _) _ _ _; exact trap8x2 kk.out) | (guard_target = wpTreeC _ _ _ (Tr.q _ _) _ _ _; exact aefb41bf kk.out)))) : P := h ⟨k⟩
theorem trap8g6 {P Q : Prop} (k : Q) (h : Hold Q → P := by (intro kk; (guard_target = wpList _ _ _ (Oper.mk _ (.store _ _ _) _ _ _ _ :: _) _ _; exact a218e51a kk.out))) : P := h ⟨k⟩
theorem trap8g8 {P Q : Prop} (k : Q) (h : Hold Q → P := by (intro kk; (exact a141a087 kk.out))) : P := h ⟨k⟩
theorem trap8g11 {P Q : Prop} (k : Q) (h : Hold Q → P := by (intro kk; (first | (guard_target = wpList _ _ _ (Oper.mk _ (.load _ _) _ _ _ _ :: _) _ _; exact a15dc6b3 kk.out) | (guard_target = wpTreeC _ _ _ (Tr.q _ _) _ _ _; exact a9e94fc6 kk.out)))) : P := h ⟨k⟩
theorem trap8g14 {P Q : Prop} (k : Q) (h : Hold Q → P := by (intro kk; (guard_target = wpTreeC _ _ _ (Tr.e _ _) _ _ _; exact a447b417 kk.out))) : P := h ⟨k⟩
theorem trap8x15 {P Q : Prop} (k : Q) (h : Hold Q → P := by (intro kk; guard_target = wpList _ _ _ (Oper.mk _ (.load _ _) _ _ _ _ :: _) _ _; (with_reducible refine BigFrame.wpList_want ?_ (fun K hK => ?_)); exact rfl; (refine o_loadNp (t0 := ?_) (t1 := ?_) (t2 := ?_) (t3 := ?_) (t4 := ?_) (t5 := ?_) rfl rfl H ?_ ?_ ?_ (hK _ _ ?_); rotate_left 6; (repeat first | exact .head _ | apply List.Mem.tail); (focus (intro _; simp; done)); (focus (intro _; simp; done))); clear hK K; simp only [Act.put, List.setIfInBounds_toArray, List.set_cons_succ, List.set_cons_zero]; exact kk.out)) : P := h ⟨k⟩
theorem trap8g19 {P Q : Prop} (k : Q) (h : Hold Q → P := by (intro kk; (first | (guard_target = wpList _ _ _ (Oper.mk _ (.load _ _) _ _ _ _ :: _) _ _; exact trap8x15 kk.out) | (guard_target = wpList _ _ _ (Oper.mk _ (.load _ _) _ _ _ _ :: _) _ _; exact a15dc6b3 kk.out) | (guard_target = wpTreeC _ _ _ (Tr.q _ _) _ _ _; exact a9e94fc6 kk.out)))) : P := h ⟨k⟩
theorem trap8g24 {P Q : Prop} (k : Q) (h : Hold Q → P := by (intro kk; (guard_target = wpTreeC _ _ _ (Tr.e _ Tr.nil) _ _ _; exact a181f754 kk.out))) : P := h ⟨k⟩
theorem trap8x27 {P Q : Prop} (k : Q) (h : Hold Q → P := by (intro kk; guard_target = wpList _ _ _ (Oper.mk _ (.load _ _) _ _ _ _ :: _) _ _; (with_reducible refine BigFrame.wpList_want ?_ (fun K hK => ?_)); exact rfl; (first | (refine o_loadSa (t0 := ?_) (t1 := ?_) (t2 := ?_) (t3 := ?_) rfl rfl H ?_ ?_ ?_ (hK _ _ ?_); rotate_left 4; (repeat first | exact .head _ | apply List.Mem.tail); (focus (intro _; simp [X0, X1, X2, X3]; done)); (focus (intro _; simp [X0, X1, X2, X3]; done))) | (refine o_loadSb (t0 := ?_) (t1 := ?_) (t2 := ?_) (t3 := ?_) rfl rfl H ?_ ?_ ?_ (hK _ _ ?_); rotate_left 4; (repeat first | exact .head _ | apply List.Mem.tail); (focus (intro _; simp [X0, X1, X2, X3]; done)); (focus (intro _; simp [X0, X1, X2, X3]; done)))); clear hK K; simp only [Act.put, List.setIfInBounds_toArray, List.set_cons_succ, List.set_cons_zero, X0, X1, X2, X3]; exact kk.out)) : P := h ⟨k⟩
theorem trap8x30 {P Q : Prop} (k : Q) (h : Hold Q → P := by (intro kk; guard_target = wpTreeC _ _ _ (Tr.q _ _) _ _ _; (with_reducible refine treeC_quiet (o := ?_) (aK H) ?_ ?_ ?_ (fun K hK => ?_)); rotate_left 1; exact rfl; exact rfl; exact rfl; simp only [List.getElem_toArray, List.getElem_cons_succ, List.getElem_cons_zero]; (guard_target = Oper.quiet _ (Oper.mk _ (.lookup _ _ _ _) _ _ _ _) _ _ _; (refine q_segGet (m := ?_) rfl rfl rfl ?_ (hK _ ?_); rotate_left 1; (repeat first | exact .head _ | apply List.Mem.tail)); clear hK K; simp only [Act.put, List.setIfInBounds_toArray, List.set_cons_succ, List.set_cons_zero, X0, X1, X2, X3]); exact kk.out)) : P := h ⟨k⟩
theorem trap8g31 {P Q : Prop} (k : Q) (h : Hold Q → P := by (intro kk; (first | (guard_target = wpList _ _ _ (Oper.mk _ (.load _ _) _ _ _ _ :: _) _ _; exact trap8x27 kk.out) | (guard_target = wpList _ _ _ (Oper.mk _ (.load _ _) _ _ _ _ :: _) _ _; exact a2601604 kk.out) | (guard_target = wpTreeC _ _ _ (Tr.q _ _) _ _ _; exact trap8x30 kk.out) | (guard_target = wpTreeC _ _ _ (Tr.q _ _) _ _ _; exact aefb41bf kk.out) | (guard_target = wpTreeC _ _ _ (Tr.q _ _) _ _ _; exact a41f381c kk.out)))) : P := h ⟨k⟩
theorem trap8g36 {P Q : Prop} (k : Q) (h : Hold Q → P := by (intro kk; (first | (guard_target = wpList _ _ _ (Oper.mk _ (.store _ _ _) _ _ _ _ :: _) _ _; exact a218e51a kk.out) | (guard_target = wpTreeC _ _ _ (Tr.e _ Tr.nil) _ _ _; exact aa105659 kk.out)))) : P := h ⟨k⟩
theorem trap8g38 {P Q : Prop} (k : Q) (h : Hold Q → P := by (intro kk; (guard_target = wpTreeC _ _ _ (Tr.e _ _) _ _ _; exact ac4b56f8 kk.out))) : P := h ⟨k⟩
theorem trap8r1 {P Q : Prop} (k : Q) (h : Hold Q → InR 5 0 (.q 0 (.q 4 (.e 1 (.q 2 (.q 3 (.q 5 (.q 6 .nil))))))) P := by exact aRC0) : P := h ⟨k⟩
theorem trap8r2 {P Q : Prop} (k : Q) (h : Hold Q → InR 12 0 (.q 0 (.q 4 (.q 5 (.e 1 (.q 2 (.q 3 (.q 6 (.q 7 (.e 8 .nil))))))))) P := by exact aRC0) : P := h ⟨k⟩
theorem trap8r3 {P Q : Prop} (k : Q) (h : Hold Q → InR 13 0 (.q 0 (.q 4 (.q 5 (.e 1 (.q 2 (.q 3 (.q 6 (.q 7 (.e 8 .nil))))))))) P := by exact aRC0) : P := h ⟨k⟩
theorem trap8r4 {P Q : Prop} (k : Q) (h : Hold Q → InR 15 0 (.q 0 (.q 1 (.q 2 (.q 3 (.q 4 (.q 5 (.q 6 (.e 7 (.e 8 .nil))))))))) P := by exact aRC0) : P := h ⟨k⟩
theorem trap8r5 {P Q : Prop} (k : Q) (h : Hold Q → InR 19 0 (.q 0 (.q 4 (.q 5 (.e 1 (.q 2 (.q 3 (.q 6 (.q 7 (.e 8 .nil))))))))) P := by exact aRC0) : P := h ⟨k⟩
theorem trap8r6 {P Q : Prop} (k : Q) (h : Hold Q → InR 21 0 (.q 0 (.q 4 (.q 5 (.e 1 (.q 2 (.q 3 (.q 6 (.q 7 (.e 8 .nil))))))))) P := by exact aRC0) : P := h ⟨k⟩
theorem trap8r7 {P Q : Prop} (k : Q) (h : Hold Q → InR 22 1 (.q 0 (.q 4 (.q 5 (.e 1 (.q 2 (.q 3 (.q 6 (.q 7 (.q 8 (.q 9 (.q 10 (.e 11 (.q 12 .nil))))))))))))) P := by exact aRC) : P := h ⟨k⟩
abbrev spV (a b : Int) : Value := .agg #[.int .i64 a, .int .i64 b]
theorem n_grow {N : List Nd} {j n b c : Nat} {q : Nd} (h : N[j]? = some q) : (Res.grow 75 6 (.slice (some ⟨b, 0, none⟩) n c) n (nR N)).at b (j * 6) (nd6 q) := at_grow (flatN_at (f := nd6) (k := 6) (fun _ => rfl) N j _ h)
theorem p_bot {P : List Pc} {j n b c : Nat} {p : Pc} (h : P[j]? = some p) : (Res.grow 80 10 (.slice (some ⟨b, 0, none⟩) n c) n (pR P)).at b (j * 10 + 1) [.int .i64 p.t.bot] := at_grow (by
 have := flatN_sub (f := pc10) (k := 10) (fun _ => rfl) h 1 1 (by omega)
 exact this)
section
variable {Pg : Program} {o : Oper} {a : Act} {w w0 : World} {B : Nat} {l : List Res} {Q : Exit → Act → World → Prop} {ty : TypeId} {x : Operand} {b : Nat} {t0 t1 t2 t3 t4 t5 : Value}
theorem o_loadNp {K : Act → World → Prop} (ho : o.op = .load ty x) (hx : a.eval x = .pointer (some ⟨b, 2, none⟩)) (H : Own B w0 w l) (hm : Res.cells b [t0, t1, t2, t3, t4, t5] ∈ l)
  (ha : ∀ w, (isAgg ty).run Pg w = .ok true w) (hs : ∀ w, (sizeOf ty).run Pg w = .ok 2 w) (hk : K (a.put o.dst (.agg #[t2, t3])) w) : o.wp Pg a w K Q := o_loadN (r := .cells b [t0, t1, t2, t3, t4, t5]) (cs := [t2, t3]) ho hx H ⟨rfl, rfl⟩ hm ha hs hk
end
set_option maxRecDepth 100000 in
set_option maxHeartbeats 8000000 in
theorem findR_any {B : Nat} {w0 w : World} {l : List Res} {bx : Nat} {x y : Int} (hin : inB ⟨x, y⟩ = false) (H : Own B w0 w l) : Calls Tryz.prog 10 #[.pointer (some ⟨bx, 0, none⟩), pV x y] w fun e w' => e = .returned (.tuple #[spV 0 0, .int .i64 5]) ∧ Own B w0 w' l := by
 have h1 := fun w => geomIn_any x y w
 rw [hin] at h1
 clear hin
 go_enter Tryz.func10, Tryz.ntmps10
 have tk0 : True := trivial
 have tk1 : True := trivial
 go_wp2_with (first
  | (guard_target = Code.wp _ (Code.scope _) _ _ _; go_step3)
  | (go_at_call 24; (with_reducible refine (h1 _).mono ?_); rintro e w3 ⟨rfl, hb⟩; replace H := H.ext hb; clear hb; dsimp only)
  | (guard_target = wpList _ _ _ (_ :: _) _ _; (first | (refine a15dc6b3 ?_) | (refine a181aa22 ?_; clear H; (try clear w2); intro w2 H) | (refine a9475ade ?_; intro b2; clear H; (try clear w2); intro w2 H; (first | (clear tk0; rename Nat => b1) | (clear tk1; rename Nat => b2))))))
 have hr := H.loadVarN (P := Tryz.prog) (ty := 40) (b := b2) (by exact m0) (by simp) (by simp)
 (try rw [Exit.noGoto_ret])
 exact bodyPost_ret (v := .tuple #[spV 0 0, .int .i64 5]) (by simp [results, Tryz.results10, asAddr, hr]) rfl ⟨rfl, H.tail.tail⟩
set_option maxRecDepth 100000 in
set_option maxHeartbeats 8000000 in
theorem findE_any {B : Nat} {w0 w : World} {l : List Res} {bx ks ke cn cp dn dp n m : Nat} {E : List (Pt × Bool)} {x y : Int} (hin : inB ⟨x, y⟩ = true) (he : (getA E ⟨x, y⟩).getD false = true) (H : Own B w0 w (xB bx ks ke n m cn cp dn dp :: mEnd ke E :: l)) :
  Calls Tryz.prog 10 #[.pointer (some ⟨bx, 0, none⟩), pV x y] w fun e w' => e = .returned (.tuple #[spV 0 0, .int .i64 7]) ∧ Own B w0 w' (xB bx ks ke n m cn cp dn dp :: mEnd ke E :: l) := by
 have h1 := fun w => geomIn_any x y w
 rw [hin] at h1
 simp only [xB] at H ⊢
 clear hin
 go_enter Tryz.func10, Tryz.ntmps10
 have tk0 : True := trivial
 have tk1 : True := trivial
 have X0 := @he
 have X1 := @zz
 have X2 := @zz
 have X3 := @zz
 go_wp2_with (first
  | (guard_target = Code.wp _ (Code.scope _) _ _ _; go_step3)
  | (go_at_call 24; (with_reducible refine (h1 _).mono ?_); rintro e w3 ⟨rfl, hb⟩; replace H := H.ext hb; clear hb; dsimp only; (skip))
  | (guard_target = Code.wp _ (Code.region 5 _ true) _ _ _; refine trap8r1 ?_; clear H; (try clear w2); intro w2 H)
  | ((first | guard_target = wpList _ _ _ (_ :: _) _ _ | guard_target = wpTreeC _ _ _ _ _ _ _); (first | (refine trap8g3 ?_) | (refine trap8g6 ?_; clear H; (try clear w2); intro w2 H) | (refine trap8g8 ?_; intro b2; clear H; (try clear w2); intro w2 H; (first | (clear tk0; rename Nat => b1) | (clear tk1; rename Nat => b2))) | (guard_target = wpTreeC _ _ _ Tr.nil _ _ _; refine treeC_nil H ?_; clear H; (try clear w2); intro w2 H) | (refine afab4b57 ?_; clear H; (try clear w2); intro w2 H))))
 have hr := H.loadVarN (P := Tryz.prog) (ty := 40) (b := b2) (by exact m0) (by simp) (by simp)
 (try rw [Exit.noGoto_ret])
 exact bodyPost_ret (v := .tuple #[spV 0 0, .int .i64 7]) (by simp [results, Tryz.results10, asAddr, hr]) rfl ⟨rfl, (aW H)⟩
def spotOf (N : List Nd) (P : List Pc) : Ans → Value
 | .on id => spV id 0
 | .leaf n => spV 0 (((P[idN N n]?).getD pc0).t.bot)
def LeafOK (N : List Nd) (P : List Pc) : Ans → Prop
 | .on _ => True
 | .leaf n => ∃ i p, N[n]? = some (lfN i) ∧ P[i]? = some p
def FindRel (N : List Nd) (P : List Pc) (S : List (Int × Sg)) (E : List (Pt × Bool)) (q : Pt) (r : Ans) (B : Nat) (w0 : World) (bx ks ke cn cp dn dp b1 b2 b3 : Nat) (l : List Res) (k : Nat) (wr : World) : Prop :=
 ∃ nd m, N[m]? = some nd ∧ DescZ N S q k m r ∧ Own B w0 wr (.cells b3 (nd6 nd) :: .cells b2 [.int .i64 0, .int .i64 0] :: .cells b1 [.int .i64 q.x, .int .i64 q.y] :: xB bx ks ke N.length P.length cn cp dn dp :: nG dn N.length cn N :: pG dp P.length cp P :: mSeg ks S :: mEnd ke E :: l)
set_option maxRecDepth 100000 in
set_option maxHeartbeats 16000000 in
theorem find_any {B : Nat} {w0 w : World} {l : List Res} {bx ks ke cn cp dn dp k : Nat} {N : List Nd} {P : List Pc} {S : List (Int × Sg)} {E : List (Pt × Bool)} {x y : Int} {r : Ans} (hin : inB ⟨x, y⟩ = true) (he : (getA E ⟨x, y⟩).getD false = false) (hd : DescZ N S ⟨x, y⟩ k 0 r) (hleaf : LeafOK N P r) (hN : N.length ≤ 1000000) (hP : P.length ≤ 1000000)
  (H : Own B w0 w (xB bx ks ke N.length P.length cn cp dn dp :: nG dn N.length cn N :: pG dp P.length cp P :: mSeg ks S :: mEnd ke E :: l)) :
  Calls Tryz.prog 10 #[.pointer (some ⟨bx, 0, none⟩), pV x y] w fun e w' => e = .returned (.tuple #[spotOf N P r, .int .i64 0]) ∧ Own B w0 w' (xB bx ks ke N.length P.length cn cp dn dp :: nG dn N.length cn N :: pG dp P.length cp P :: mSeg ks S :: mEnd ke E :: l) := by
 have h1 := fun w => geomIn_any x y w
 rw [hin] at h1
 obtain ⟨nd, hnd⟩ := hd.node
 have HD := Lib.hid hd
 have HL := Lib.hid hleaf
 have HND := Lib.hid hnd
 have hp := n_grow (n := N.length) (b := dn) (c := cn) hnd
 simp only [nd6, Nat.zero_mul] at hp
 have hpos : 0 < N.length := (List.getElem?_eq_some_iff.1 hnd).1
 simp only [xB, nG, pG] at H ⊢
 clear hin hd hleaf hnd
 go_enter Tryz.func10, Tryz.ntmps10
 have tk0 : True := trivial
 have tk1 : True := trivial
 have tk2 : True := trivial
 have X0 := @he
 have X1 := @zz
 have X2 := @zz
 have X3 := @zz
 go_wp2_with (first
  | (guard_target = Code.wp _ (Code.scope _) _ _ _; go_step3)
  | (guard_target = Code.wp _ (Code.label _) _ _ _; go_step3)
  | (go_at_call 24; (with_reducible refine (h1 _).mono ?_); rintro e w3 ⟨rfl, hb⟩; replace H := H.ext hb; clear hb; dsimp only; (skip))
  | (guard_target = Code.wp _ (Code.region 5 _ true) _ _ _; refine trap8r1 ?_; clear H; (try clear w2); intro w2 H)
  | ((first | guard_target = wpList _ _ _ (_ :: _) _ _ | guard_target = wpTreeC _ _ _ _ _ _ _); (first | (refine trap8g3 ?_) | (refine trap8g6 ?_; clear H; (try clear w2); intro w2 H) | (refine trap8g8 ?_; intro b2; clear H; (try clear w2); intro w2 H; (first | (clear tk0; rename Nat => b1) | (clear tk1; rename Nat => b2) | (clear tk2; rename Nat => b3))) | (guard_target = wpTreeC _ _ _ Tr.nil _ _ _; refine treeC_nil H ?_; clear H; (try clear w2); intro w2 H) | (refine afab4b57 ?_; clear H; (try clear w2); intro w2 H))))
 go_loopg [] k (FindRel N P S E ⟨x, y⟩ r B w0 bx ks ke cn cp dn dp b1 b2 b3 l)
 case atStart => exact ⟨nd, 0, HND.out, HD.out, H⟩
 case round =>
  clear H hp HD HND
  obtain ⟨⟨kk, id, ⟨px, py⟩, na, nb⟩, m, hnd, hd, H⟩ := hrel
  simp only [nd6, xB, nG, pG] at H
  have hmN : m < N.length := (List.getElem?_eq_some_iff.1 hnd).1
  cases hd with
  | leaf h hk =>
   obtain ⟨i, p, e1, e2⟩ := HL.out
   rw [hnd] at e1
   injection e1 with e1
   injection e1 with e1 e3 e4 e5 e6
   subst e1 e3 e5 e6
   have hp := p_bot (n := P.length) (b := dp) (c := cp) e2
   have hil : i < P.length := (List.getElem?_eq_some_iff.1 e2).1
   have hz : spotOf N P (.leaf m) = spV 0 p.t.bot := by
    have e7 : idN N m = i := by unfold idN; rw [hnd]; simp
    show spV 0 (((P[idN N m]?).getD pc0).t.bot) = _
    rw [e7, e2]; rfl
   have HZ := Lib.hid hz
   clear h hk e2 hnd hz
   have tk0 : True := trivial
   go_wp2_with (first
    | (guard_target = Code.wp _ (Code.region 22 _ true) _ _ _; replace H:Own _ _ _ (Res.cells b2 _ :: _) := aF; refine trap8r7 ?_; clear H; (try clear w2); intro w2 H)
    | ((first | guard_target = wpList _ _ _ (_ :: _) _ _ | guard_target = wpTreeC _ _ _ _ _ _ _); (first | (refine trap8g11 ?_) | (refine trap8g14 ?_; clear H; (try clear w2); intro w2 H) | (guard_target = wpTreeC _ _ _ Tr.nil _ _ _; refine treeC_nil H ?_; clear H; (try clear w2); intro w2 H) | (refine a9d8d0a4 ?_; clear H; (try clear w2); intro w2 H))))
   have hr := H.loadVarN (P := Tryz.prog) (ty := 40) (b := b2) (by exact m0) (by simp) (by simp)
   (try rw [Exit.noGoto_ret])
   exact bodyPost_ret (v := .tuple #[spV 0 p.t.bot, .int .i64 0]) (by simp [results, Tryz.results10, asAddr, hr]) rfl ⟨by rw [HZ.out], (aW H)⟩
  | @ptL n2 m' k' d r2 h hk hx hm hd' =>
   rw [hnd] at h
   injection h with h
   subst h
   simp only at hk hx hm
   subst hk hm
   obtain ⟨nd', hnd'⟩ := hd'.node
   have hp := n_grow (n := N.length) (b := dn) (c := cn) hnd'
   simp only [nd6] at hp
   have hml : m' < N.length := (List.getElem?_eq_some_iff.1 hnd').1
   have h2 := fun w => geomLess_any x y px py w
   have h3 : ∀ w : World, True := fun _ => trivial
   have hs0 : True := trivial
   rw [hx] at h2
   have HD := Lib.hid hd'
   have HND := Lib.hid hnd'
   clear hd' hnd' hnd hx h3
   have tk0 : True := trivial
   go_wp2_with (first
    | (go_at_call 25; (with_reducible refine (h2 _).mono ?_); rintro e w3 ⟨rfl, hb⟩; replace H := H.ext hb; clear hb; dsimp only; (skip))
    | (guard_target = Code.wp _ (Code.region 12 _ true) _ _ _; refine trap8r2 ?_; clear H; (try clear w2); intro w2 H)
    | ((first | guard_target = wpList _ _ _ (_ :: _) _ _ | guard_target = wpTreeC _ _ _ _ _ _ _); (first | (refine trap8g19 ?_) | (refine trap8g24 ?_; clear H; (try clear w2); intro w2 H) | (guard_target = wpTreeC _ _ _ Tr.nil _ _ _; refine treeC_nil H ?_; clear H; (try clear w2); intro w2 H) | (refine a9d8d0a4 ?_; clear H; (try clear w2); intro w2 H))))
   go_roundg k'
   case rel => exact ⟨nd', m', HND.out, HD.out, (aW H)⟩
   case measure => omega
  | @ptR n2 m' k' d r2 h hk hx hm hd' =>
   rw [hnd] at h
   injection h with h
   subst h
   simp only at hk hx hm
   subst hk hm
   obtain ⟨nd', hnd'⟩ := hd'.node
   have hp := n_grow (n := N.length) (b := dn) (c := cn) hnd'
   simp only [nd6] at hp
   have hml : m' < N.length := (List.getElem?_eq_some_iff.1 hnd').1
   have h2 := fun w => geomLess_any x y px py w
   have h3 : ∀ w : World, True := fun _ => trivial
   have hs0 : True := trivial
   rw [hx] at h2
   have HD := Lib.hid hd'
   have HND := Lib.hid hnd'
   clear hd' hnd' hnd hx h3
   have tk0 : True := trivial
   go_wp2_with (first
    | (go_at_call 25; (with_reducible refine (h2 _).mono ?_); rintro e w3 ⟨rfl, hb⟩; replace H := H.ext hb; clear hb; dsimp only; (skip))
    | (guard_target = Code.wp _ (Code.region 13 _ true) _ _ _; refine trap8r3 ?_; clear H; (try clear w2); intro w2 H)
    | ((first | guard_target = wpList _ _ _ (_ :: _) _ _ | guard_target = wpTreeC _ _ _ _ _ _ _); (first | (refine trap8g19 ?_) | (refine trap8g24 ?_; clear H; (try clear w2); intro w2 H) | (guard_target = wpTreeC _ _ _ Tr.nil _ _ _; refine treeC_nil H ?_; clear H; (try clear w2); intro w2 H) | (refine a9d8d0a4 ?_; clear H; (try clear w2); intro w2 H))))
   go_roundg k'
   case rel => exact ⟨nd', m', HND.out, HD.out, (aW H)⟩
   case measure => omega
  | @lnU n2 m' k' d r2 h hk hx hm hd' =>
   rw [hnd] at h
   injection h with h
   subst h
   simp only at hk hx hm
   subst hk hm
   obtain ⟨nd', hnd'⟩ := hd'.node
   have hp := n_grow (n := N.length) (b := dn) (c := cn) hnd'
   simp only [nd6] at hp
   have hml : m' < N.length := (List.getElem?_eq_some_iff.1 hnd').1
   obtain ⟨⟨⟨ax, ay⟩, ⟨sx, sy⟩⟩, hs0⟩ : ∃ s, (getA S id).getD zSg = s := ⟨_, rfl⟩
   have h3 := fun w => geomTurn_any ax ay sx sy x y w
   unfold sgOf at hx
   rw [hs0] at hx
   simp only at hx
   rw [hx] at h3
   have HD := Lib.hid hd'
   have HND := Lib.hid hnd'
   clear hd' hnd' hnd hx
   have tk0 : True := trivial
   have X0 := @hs0
   have X1 := @zz
   have X2 := @zz
   have X3 := @zz
   go_wp2_with (first
    | (go_at_call 26; (with_reducible refine (h3 _).mono ?_); rintro e w3 ⟨rfl, hb⟩; replace H := H.ext hb; clear hb; dsimp only; (skip))
    | (guard_target = Code.wp _ (Code.region 15 _ true) _ _ _; refine trap8r4 ?_; clear H; (try clear w2); intro w2 H)
    | (guard_target = Code.wp _ (Code.region 19 _ true) _ _ _; refine trap8r5 ?_; clear H; (try clear w2); intro w2 H)
    | ((first | guard_target = wpList _ _ _ (_ :: _) _ _ | guard_target = wpTreeC _ _ _ _ _ _ _); (first | (refine trap8g31 ?_) | (refine trap8g36 ?_; clear H; (try clear w2); intro w2 H) | (refine trap8g38 ?_; intro b2; clear H; (try clear w2); intro w2 H; (clear tk0; rename Nat => b7)) | (guard_target = wpTreeC _ _ _ Tr.nil _ _ _; refine treeC_nil H ?_; clear H; (try clear w2); intro w2 H) | (refine afab4b57 ?_; clear H; (try clear w2); intro w2 H))))
   go_roundg k'
   case rel => exact ⟨nd', m', HND.out, HD.out, (aW H)⟩
   case measure => omega
  | @lnD n2 m' k' d r2 h hk hx hm hd' =>
   rw [hnd] at h
   injection h with h
   subst h
   simp only at hk hx hm
   subst hk hm
   obtain ⟨nd', hnd'⟩ := hd'.node
   have hp := n_grow (n := N.length) (b := dn) (c := cn) hnd'
   simp only [nd6] at hp
   have hml : m' < N.length := (List.getElem?_eq_some_iff.1 hnd').1
   obtain ⟨⟨⟨ax, ay⟩, ⟨sx, sy⟩⟩, hs0⟩ : ∃ s, (getA S id).getD zSg = s := ⟨_, rfl⟩
   have h3 := fun w => geomTurn_any ax ay sx sy x y w
   unfold sgOf at hx
   rw [hs0] at hx
   simp only at hx
   rw [hx] at h3
   have HD := Lib.hid hd'
   have HND := Lib.hid hnd'
   clear hd' hnd' hnd hx
   have tk0 : True := trivial
   have X0 := @hs0
   have X1 := @zz
   have X2 := @zz
   have X3 := @zz
   go_wp2_with (first
    | (go_at_call 26; (with_reducible refine (h3 _).mono ?_); rintro e w3 ⟨rfl, hb⟩; replace H := H.ext hb; clear hb; dsimp only; (skip))
    | (guard_target = Code.wp _ (Code.region 15 _ true) _ _ _; refine trap8r4 ?_; clear H; (try clear w2); intro w2 H)
    | (guard_target = Code.wp _ (Code.region 21 _ true) _ _ _; refine trap8r6 ?_; clear H; (try clear w2); intro w2 H)
    | ((first | guard_target = wpList _ _ _ (_ :: _) _ _ | guard_target = wpTreeC _ _ _ _ _ _ _); (first | (refine trap8g31 ?_) | (refine trap8g36 ?_; clear H; (try clear w2); intro w2 H) | (refine trap8g38 ?_; intro b2; clear H; (try clear w2); intro w2 H; (clear tk0; rename Nat => b7)) | (guard_target = wpTreeC _ _ _ Tr.nil _ _ _; refine treeC_nil H ?_; clear H; (try clear w2); intro w2 H) | (refine afab4b57 ?_; clear H; (try clear w2); intro w2 H))))
   go_roundg k'
   case rel => exact ⟨nd', m', HND.out, HD.out, (aW H)⟩
   case measure => omega
  | @on n2 d h hk hx =>
   rw [hnd] at h
   injection h with h
   subst h
   simp only at hk hx
   subst hk
   obtain ⟨⟨⟨ax, ay⟩, ⟨sx, sy⟩⟩, hs0⟩ : ∃ s, (getA S id).getD zSg = s := ⟨_, rfl⟩
   have h3 := fun w => geomTurn_any ax ay sx sy x y w
   unfold sgOf at hx
   rw [hs0] at hx
   simp only at hx
   rw [hx] at h3
   clear hnd hx
   have tk0 : True := trivial
   have X0 := @hs0
   have X1 := @zz
   have X2 := @zz
   have X3 := @zz
   go_wp2_with (first
    | (go_at_call 26; (with_reducible refine (h3 _).mono ?_); rintro e w3 ⟨rfl, hb⟩; replace H := H.ext hb; clear hb; dsimp only; (skip))
    | (guard_target = Code.wp _ (Code.region 15 _ true) _ _ _; refine trap8r4 ?_; clear H; (try clear w2); intro w2 H)
    | ((first | guard_target = wpList _ _ _ (_ :: _) _ _ | guard_target = wpTreeC _ _ _ _ _ _ _); (first | (refine trap8g31 ?_) | (refine trap8g36 ?_; clear H; (try clear w2); intro w2 H) | (refine trap8g38 ?_; intro b2; clear H; (try clear w2); intro w2 H; (clear tk0; rename Nat => b7)) | (guard_target = wpTreeC _ _ _ Tr.nil _ _ _; refine treeC_nil H ?_; clear H; (try clear w2); intro w2 H))))
   have hr := H.loadVarN (P := Tryz.prog) (ty := 40) (b := b2) (by exact m2) (by simp) (by simp)
   (try rw [Exit.noGoto_ret])
   exact bodyPost_ret (v := .tuple #[spV id 0, .int .i64 0]) (by simp [results, Tryz.results10, asAddr, hr]) rfl ⟨rfl, (aW H)⟩
end Go.Proofs.YtlhmjhildlnokaaGreat
