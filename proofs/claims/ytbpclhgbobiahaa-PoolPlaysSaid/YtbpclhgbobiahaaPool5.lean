/-
  The pool's calls, told by what the document knows of a pool.
-/
import Derived.Test.YtbpclhgbobiahaaPool4
namespace Go.Proofs.Ytbpclhgbobiahaa
set_option linter.unusedVariables false
set_option linter.unusedSimpArgs false
open Go.RowKit

section
variable {w w0 : World} {B : Nat} {l : List Res} {bp bm b r : Nat} {room c : Int} {fs L1 L2 : List Fr} {rf R1 R2 : List Rf} {g : Rf} {f : Fr} {no : Int} {s : ByteArray}
/-- The frames fs are the document's rf. -/
structure PS (c : Int) (fs : List Fr) (rf : List Rf) : Prop where
  map : fs.map Fr.r = rf
  rise : Rise c fs
  pos : 0 ≤ c
theorem Rise.mono {c' : Int} (h : Rise c fs) (hc : c ≤ c') : Rise c' fs := ⟨h.1, fun f hf => ⟨(h.2 f hf).1, Int.le_trans (h.2 f hf).2 hc⟩⟩
theorem Rise.sub {fs' : List Fr} (h : Rise c fs) (hs : fs'.Sublist fs) : Rise c fs' := ⟨h.1.sublist hs, fun f hf => h.2 f (hs.subset hf)⟩
theorem Rise.push (h : Rise c fs) (hc : 0 ≤ c) {c' : Int} (hc' : c < c') (hf : f.u = c') : Rise c' (fs ++ [f]) := by
  refine ⟨List.pairwise_append.2 ⟨h.1, by simp, fun a ha b hb => ?_⟩, fun a ha => ?_⟩
  · obtain rfl := List.mem_singleton.1 hb
    have := (h.2 a ha).2; omega
  · rcases List.mem_append.1 ha with ha | ha
    · have := h.2 a ha; omega
    · obtain rfl := List.mem_singleton.1 ha; omega
theorem Rise.map {F : Fr → Fr} (hF : ∀ f, (F f).u = f.u) (h : Rise c fs) : Rise c (fs.map F) := by
  refine ⟨List.pairwise_map.2 (h.1.imp fun {a b} hab => by rw [hF, hF]; exact hab), fun f hf => ?_⟩
  obtain ⟨g, hg, rfl⟩ := List.mem_map.1 hf
  rw [hF]; exact h.2 g hg
theorem Rise.swap {f' : Fr} (h : Rise c (L1 ++ f :: L2)) (hu : f'.u = f.u) : Rise c (L1 ++ f' :: L2) := by
  have h1 := List.pairwise_append.1 h.1
  have h2 := List.pairwise_cons.1 h1.2.1
  refine ⟨List.pairwise_append.2 ⟨h1.1, .cons (fun a ha => by rw [hu]; exact h2.1 a ha) h2.2, fun a ha b hb => ?_⟩, fun a ha => ?_⟩
  · rcases List.mem_cons.1 hb with rfl | hb
    · rw [hu]; exact h1.2.2 a ha f (by simp)
    · exact h1.2.2 a ha b (by simp [hb])
  · rcases List.mem_append.1 ha with ha | ha
    · exact h.2 a (by simp [ha])
    · rcases List.mem_cons.1 ha with rfl | ha
      · rw [hu]; exact h.2 f (by simp)
      · exact h.2 a (by simp [ha])
theorem PS.split (h : PS c fs (R1 ++ g :: R2)) : ∃ L1 f L2, fs = L1 ++ f :: L2 ∧ L1.map Fr.r = R1 ∧ f.r = g ∧ L2.map Fr.r = R2 := by
  obtain ⟨L1, L2', rfl, h1, h2⟩ := List.map_eq_append_iff.1 h.map
  obtain ⟨f, L2, rfl, h3, h4⟩ := List.map_eq_cons_iff.1 h2
  exact ⟨L1, f, L2, rfl, h1, h3, h4⟩
theorem sub_mid : (L1 ++ L2).Sublist (L1 ++ f :: L2) := List.Sublist.append_left (List.sublist_cons_self _ _) _
theorem PS.nos (h : PS c fs rf) : fs.map (·.no) = rf.map (·.no) := by rw [← h.map, List.map_map]; rfl
theorem PS.out (h : PS c fs rf) (hn : no ∉ rf.map (·.no)) : getA (fs.map ent) no = none := get_out (by rw [h.nos]; exact hn)
theorem PS.len (h : PS c fs rf) : fs.length = rf.length := by rw [← h.map, List.length_map]
/-- What the pool's call has made of it. -/
def PQ (B : Nat) (w0 : World) (bp bm : Nat) (room c : Int) (rf : List Rf) (l : List Res) (v : Value) (e : Ending) (w' : World) : Prop :=
  ∃ fs' c', e = .returned v ∧ PS c' fs' rf ∧ c' ≤ c + 2 ∧ Own B w0 w' (poolR bp bm room c' fs' :: l)
theorem p_get_some (h : PS c fs (R1 ++ g :: R2)) (hc : c ≤ 1000000) (H : Own B w0 w (poolR bp bm room c fs :: l)) :
    Calls Try.prog 18 #[.pointer (some ⟨bp, 0, none⟩), .int .i64 g.no] w (PQ B w0 bp bm room c (R1 ++ R2 ++ [g]) l (.tuple #[.string g.s, .bool true])) := by
  obtain ⟨L1, f, L2, rfl, rfl, rfl, rfl⟩ := h.split
  refine (get_some f.no (get_mid (nodup_no H)) h.pos hc H.focus).mono ?_
  rintro e w' ⟨rfl, H2⟩
  refine ⟨L1 ++ L2 ++ [{ f with u := c + 1 }], c + 1, rfl, ⟨by simp, (h.rise.sub sub_mid).push h.pos (by omega) rfl, by have := h.pos; omega⟩, by omega, Own.unfocus (f := { f with u := c + 1 }) (L := L1 ++ L2) H2 (List.perm_append_singleton _ _) ?_⟩
  have : ((L1 ++ L2 ++ [{ f with u := c + 1 }]).map ent).Perm ((L1 ++ f :: L2).map ent) := by
    simp only [List.map_append, List.map_cons, List.map_nil]
    exact (List.perm_append_singleton _ _).trans List.perm_middle.symm
  exact this.symm
theorem p_get_none (h : PS c fs rf) (hn : no ∉ rf.map (·.no)) (H : Own B w0 w (poolR bp bm room c fs :: l)) :
    Calls Try.prog 18 #[.pointer (some ⟨bp, 0, none⟩), .int .i64 no] w (PQ B w0 bp bm room c rf l (.tuple #[.string ⟨#[]⟩, .bool false])) := by
  refine (get_none no (h.out hn) H.openP).mono ?_
  rintro e w' ⟨rfl, H2⟩
  exact ⟨fs, c, rfl, h, by omega, Own.shutP (.refl _) H2⟩
/-- One in its place. -/
theorem unfocus_at {f' : Fr} {A : List (Int × Option Nat)} (H : Own B w0 w (fB f' :: pB bp bm room c :: mPool bm ((L1 ++ f :: L2).map ent) :: ((L1 ++ L2).map fB ++ l))) (he : ent f' = ent f) : Own B w0 w (poolR bp bm room c (L1 ++ f' :: L2) :: l) :=
  Own.unfocus (f := f') (L := L1 ++ L2) H List.perm_middle (by simp [he])
theorem p_pin_some (h : PS c fs (R1 ++ g :: R2)) (hp : 0 ≤ g.p) (hp2 : g.p ≤ 1000000) (H : Own B w0 w (poolR bp bm room c fs :: l)) :
    Calls Try.prog 16 #[.pointer (some ⟨bp, 0, none⟩), .int .i64 g.no] w (PQ B w0 bp bm room c (R1 ++ { g with p := g.p + 1 } :: R2) l (.bool true)) := by
  obtain ⟨L1, f, L2, rfl, rfl, rfl, rfl⟩ := h.split
  refine (pin_some f.no (get_mid (nodup_no H)) hp hp2 H.focus).mono ?_
  rintro e w' ⟨rfl, H2⟩
  exact ⟨L1 ++ { f with p := f.p + 1 } :: L2, c, rfl, ⟨by simp, h.rise.swap rfl, h.pos⟩, by omega, unfocus_at (A := []) (f' := { f with p := f.p + 1 }) H2 rfl⟩
theorem p_pin_none (h : PS c fs rf) (hn : no ∉ rf.map (·.no)) (H : Own B w0 w (poolR bp bm room c fs :: l)) :
    Calls Try.prog 16 #[.pointer (some ⟨bp, 0, none⟩), .int .i64 no] w (PQ B w0 bp bm room c rf l (.bool false)) := by
  refine (pin_none no (h.out hn) H.openP).mono ?_
  rintro e w' ⟨rfl, H2⟩
  exact ⟨fs, c, rfl, h, by omega, Own.shutP (.refl _) H2⟩
theorem p_unpin_some (h : PS c fs (R1 ++ g :: R2)) (hp : 0 ≤ g.p) (hp2 : g.p ≤ 1000000) (H : Own B w0 w (poolR bp bm room c fs :: l)) :
    Calls Try.prog 20 #[.pointer (some ⟨bp, 0, none⟩), .int .i64 g.no] w (PQ B w0 bp bm room c (R1 ++ { g with p := if (g.p == 0) = true then g.p else g.p - 1 } :: R2) l (.bool (!(g.p == 0)))) := by
  obtain ⟨L1, f, L2, rfl, rfl, rfl, rfl⟩ := h.split
  refine (unpin_some f.no (get_mid (nodup_no H)) hp hp2 H.focus).mono ?_
  rintro e w' ⟨rfl, H2⟩
  exact ⟨L1 ++ { f with p := if (f.p == 0) = true then f.p else f.p - 1 } :: L2, c, rfl, ⟨by simp, h.rise.swap rfl, h.pos⟩, by omega, unfocus_at (A := []) (f' := { f with p := if (f.p == 0) = true then f.p else f.p - 1 }) H2 rfl⟩
theorem p_unpin_none (h : PS c fs rf) (hn : no ∉ rf.map (·.no)) (H : Own B w0 w (poolR bp bm room c fs :: l)) :
    Calls Try.prog 20 #[.pointer (some ⟨bp, 0, none⟩), .int .i64 no] w (PQ B w0 bp bm room c rf l (.bool false)) := by
  refine (unpin_none no (h.out hn) H.openP).mono ?_
  rintro e w' ⟨rfl, H2⟩
  exact ⟨fs, c, rfl, h, by omega, Own.shutP (.refl _) H2⟩
theorem p_set_some (s : ByteArray) (h : PS c fs (R1 ++ g :: R2)) (hc : c ≤ 1000000) (H : Own B w0 w (poolR bp bm room c fs :: l)) :
    Calls Try.prog 15 #[.pointer (some ⟨bp, 0, none⟩), .int .i64 g.no, .string s] w (PQ B w0 bp bm room c (R1 ++ R2 ++ [{ g with s := s, d := true }]) l (.int .i64 0)) := by
  obtain ⟨L1, f, L2, rfl, rfl, rfl, rfl⟩ := h.split
  refine (set_some f.no s (get_mid (nodup_no H)) h.pos hc H.focus).mono ?_
  rintro e w' ⟨rfl, H2⟩
  refine ⟨L1 ++ L2 ++ [{ f with s := s, d := true, u := c + 1 }], c + 1, rfl, ⟨by simp, (h.rise.sub sub_mid).push h.pos (by omega) rfl, by have := h.pos; omega⟩, by omega, Own.unfocus (f := { f with s := s, d := true, u := c + 1 }) (L := L1 ++ L2) H2 (List.perm_append_singleton _ _) ?_⟩
  have : ((L1 ++ L2 ++ [{ f with s := s, d := true, u := c + 1 }]).map ent).Perm ((L1 ++ f :: L2).map ent) := by
    simp only [List.map_append, List.map_cons, List.map_nil]
    exact (List.perm_append_singleton _ _).trans List.perm_middle.symm
  exact this.symm
theorem p_put_there (s : ByteArray) (h : PS c fs (R1 ++ g :: R2)) (H : Own B w0 w (poolR bp bm room c fs :: l)) :
    Calls Try.prog 19 #[.pointer (some ⟨bp, 0, none⟩), .int .i64 g.no, .string s] w (PQ B w0 bp bm room c (R1 ++ g :: R2) l (.int .i64 7)) := by
  obtain ⟨L1, f, L2, rfl, rfl, rfl, rfl⟩ := h.split
  refine (put_there f.no s (get_mid (nodup_no H)) H.openP).mono ?_
  rintro e w' ⟨rfl, H2⟩
  exact ⟨_, c, rfl, h, by omega, Own.shutP (.refl _) H2⟩
theorem ps_room (h : PS c fs rf) (hr : (rf.length : Int) < room) : ((fs.map ent).length : Int) < room := by rw [List.length_map, h.len]; exact hr
theorem ps_full (h : PS c fs rf) (hr : room ≤ (rf.length : Int)) : room ≤ (fs.length : Int) := by rw [h.len]; exact hr
theorem ps_no (h : PS c fs rf) (hn : ∀ g ∈ rf, freeB g.d g.p = false) : ∀ f ∈ fs, freeB f.d f.p = false := fun f hf => hn f.r (by rw [← h.map]; exact List.mem_map.2 ⟨f, hf, rfl⟩)
theorem p_put_full (s : ByteArray) (h : PS c fs rf) (hn : no ∉ rf.map (·.no)) (hr : room ≤ (rf.length : Int)) (hf : ∀ g ∈ rf, freeB g.d g.p = false) (H : Own B w0 w (poolR bp bm room c fs :: l)) :
    Calls Try.prog 19 #[.pointer (some ⟨bp, 0, none⟩), .int .i64 no, .string s] w (PQ B w0 bp bm room c rf l (.int .i64 8)) := by
  refine (put_no no s (h.out hn) (fun w H => space_no (ps_full h hr) h.rise (ps_no h hf) H) H.openP).mono ?_
  rintro e w' ⟨rfl, H2⟩
  exact ⟨fs, c, rfl, h, by omega, Own.shutP (.refl _) H2⟩
theorem p_set_full (s : ByteArray) (h : PS c fs rf) (hn : no ∉ rf.map (·.no)) (hr : room ≤ (rf.length : Int)) (hf : ∀ g ∈ rf, freeB g.d g.p = false) (H : Own B w0 w (poolR bp bm room c fs :: l)) :
    Calls Try.prog 15 #[.pointer (some ⟨bp, 0, none⟩), .int .i64 no, .string s] w (PQ B w0 bp bm room c rf l (.int .i64 8)) := by
  refine (set_no no s (h.out hn) (fun w H => space_no (ps_full h hr) h.rise (ps_no h hf) H) H.openP).mono ?_
  rintro e w' ⟨rfl, H2⟩
  exact ⟨fs, c, rfl, h, by omega, Own.shutP (.refl _) H2⟩
/-- A new one behind all. -/
theorem new_end {nb : Nat} {d : Bool} {c' : Int} (h : PS c fs rf) (hn : no ∉ rf.map (·.no)) (hc : c < c') (H : Own B w0 w (fB ⟨no, nb, s, d, 0, c'⟩ :: pB bp bm room c' :: mPool bm ((no, some nb) :: cutA (fs.map ent) no) :: (fs.map fB ++ l))) :
    PS c' (fs ++ [⟨no, nb, s, d, 0, c'⟩]) (rf ++ [⟨no, s, d, 0⟩]) ∧ Own B w0 w (poolR bp bm room c' (fs ++ [⟨no, nb, s, d, 0, c'⟩]) :: l) := by
  refine ⟨⟨by simp [h.map], h.rise.push h.pos hc rfl, by have := h.pos; omega⟩, Own.unfocus H (List.perm_append_singleton _ _) ?_⟩
  have hcut : cutA (fs.map ent) no = fs.map ent := cutA_none (getA_none.1 (h.out hn))
  rw [hcut]
  simpa using (List.perm_append_singleton ((no, some nb) : Int × Option Nat) (fs.map ent)).symm
theorem new_evict {nb : Nat} {d : Bool} {c' : Int} (h : PS c (L1 ++ f :: L2) rf) (hnd : ((L1 ++ f :: L2).map (·.no)).Nodup) (hn : no ∉ (L1 ++ f :: L2).map (·.no)) (hc : c < c') (H : Own B w0 w (fB ⟨no, nb, s, d, 0, c'⟩ :: pB bp bm room c' :: mPool bm ((no, some nb) :: cutA (cutA ((L1 ++ f :: L2).map ent) f.no) no) :: ((L1 ++ f :: L2).map fB ++ l))) :
    PS c' (L1 ++ L2 ++ [⟨no, nb, s, d, 0, c'⟩]) (L1.map Fr.r ++ L2.map Fr.r ++ [⟨no, s, d, 0⟩]) ∧ Own B w0 w (poolR bp bm room c' (L1 ++ L2 ++ [⟨no, nb, s, d, 0, c'⟩]) :: l) := by
  have hcut : cutA ((L1 ++ f :: L2).map ent) f.no = (L1 ++ L2).map ent := by
    have := cutA_mid (k := f.no) (u := some f.b) (L1 := L1.map ent) (L2 := L2.map ent) (by
      have := hnd
      simpa [List.map_map, Function.comp_def] using this)
    simpa using this
  rw [hcut] at H
  have h2 : PS c (L1 ++ L2) (L1.map Fr.r ++ L2.map Fr.r) := ⟨by simp, h.rise.sub sub_mid, h.pos⟩
  have hn2 : no ∉ (L1.map Fr.r ++ L2.map Fr.r).map (·.no) := by
    intro hm
    apply hn
    simp only [List.map_append, List.map_map, Function.comp_def, List.mem_append, List.map_cons, List.mem_cons] at hm ⊢
    rcases hm with hm | hm
    · exact .inl hm
    · exact .inr (.inr hm)
  refine new_end h2 hn2 hc ?_
  have hp : (fB ⟨no, nb, s, d, 0, c'⟩ :: pB bp bm room c' :: mPool bm ((no, some nb) :: cutA ((L1 ++ L2).map ent) no) :: ((L1 ++ f :: L2).map fB ++ l)).Perm (fB f :: fB ⟨no, nb, s, d, 0, c'⟩ :: pB bp bm room c' :: mPool bm ((no, some nb) :: cutA ((L1 ++ L2).map ent) no) :: ((L1 ++ L2).map fB ++ l)) := by
    have := perm_pull (x := fB f) [fB ⟨no, nb, s, d, 0, c'⟩, pB bp bm room c', mPool bm ((no, some nb) :: cutA ((L1 ++ L2).map ent) no)] (L1.map fB) (L2.map fB) l
    simpa using this.symm
  exact (H.perm hp.symm).tail
theorem p_put_room (s : ByteArray) (h : PS c fs rf) (hn : no ∉ rf.map (·.no)) (hr : (rf.length : Int) < room) (hc : c ≤ 1000000) (H : Own B w0 w (poolR bp bm room c fs :: l)) :
    Calls Try.prog 19 #[.pointer (some ⟨bp, 0, none⟩), .int .i64 no, .string s] w (PQ B w0 bp bm room c (rf ++ [⟨no, s, false, 0⟩]) l (.int .i64 0)) := by
  refine (put_yes no s (h.out hn) h.pos hc (fun w H => space_room (ps_room h hr) H) H.openP).mono ?_
  rintro e w' ⟨nb, rfl, H2⟩
  have := new_end h hn (by omega) H2
  exact ⟨_, c + 1, rfl, this.1, by omega, this.2⟩
theorem p_set_room (s : ByteArray) (h : PS c fs rf) (hn : no ∉ rf.map (·.no)) (hr : (rf.length : Int) < room) (hc : c ≤ 1000000) (H : Own B w0 w (poolR bp bm room c fs :: l)) :
    Calls Try.prog 15 #[.pointer (some ⟨bp, 0, none⟩), .int .i64 no, .string s] w (PQ B w0 bp bm room c (rf ++ [⟨no, s, true, 0⟩]) l (.int .i64 0)) := by
  refine (set_yes no s (h.out hn) h.pos hc (fun w H => space_room (ps_room h hr) H) H.openP).mono ?_
  rintro e w' ⟨nb, rfl, H2⟩
  have := new_end h hn (by omega) H2
  exact ⟨_, c + 1 + 1, rfl, this.1, by omega, this.2⟩
theorem p_put_evict (s : ByteArray) (h : PS c fs (R1 ++ g :: R2)) (hn : no ∉ (R1 ++ g :: R2).map (·.no)) (hr : room ≤ ((R1 ++ g :: R2).length : Int)) (hg : freeB g.d g.p = true) (hf : ∀ g ∈ R1, freeB g.d g.p = false) (hc : c ≤ 1000000) (H : Own B w0 w (poolR bp bm room c fs :: l)) :
    Calls Try.prog 19 #[.pointer (some ⟨bp, 0, none⟩), .int .i64 no, .string s] w (PQ B w0 bp bm room c (R1 ++ R2 ++ [⟨no, s, false, 0⟩]) l (.int .i64 0)) := by
  have hfull := ps_full h hr
  have hout := h.out hn
  have hnos := h.nos
  obtain ⟨L1, f, L2, rfl, rfl, rfl, rfl⟩ := h.split
  have hnd := nodup_no H
  refine (put_yes no s hout h.pos hc (fun w H => space_yes hfull h.rise hg (fun g hg => hf g.r (List.mem_map.2 ⟨g, hg, rfl⟩)) H) H.openP).mono ?_
  rintro e w' ⟨nb, rfl, H2⟩
  have := new_evict h hnd (by rw [hnos]; exact hn) (by omega) H2
  exact ⟨_, c + 1, rfl, this.1, by omega, this.2⟩
theorem p_set_evict (s : ByteArray) (h : PS c fs (R1 ++ g :: R2)) (hn : no ∉ (R1 ++ g :: R2).map (·.no)) (hr : room ≤ ((R1 ++ g :: R2).length : Int)) (hg : freeB g.d g.p = true) (hf : ∀ g ∈ R1, freeB g.d g.p = false) (hc : c ≤ 1000000) (H : Own B w0 w (poolR bp bm room c fs :: l)) :
    Calls Try.prog 15 #[.pointer (some ⟨bp, 0, none⟩), .int .i64 no, .string s] w (PQ B w0 bp bm room c (R1 ++ R2 ++ [⟨no, s, true, 0⟩]) l (.int .i64 0)) := by
  have hfull := ps_full h hr
  have hout := h.out hn
  have hnos := h.nos
  obtain ⟨L1, f, L2, rfl, rfl, rfl, rfl⟩ := h.split
  have hnd := nodup_no H
  refine (set_yes no s hout h.pos hc (fun w H => space_yes hfull h.rise hg (fun g hg => hf g.r (List.mem_map.2 ⟨g, hg, rfl⟩)) H) H.openP).mono ?_
  rintro e w' ⟨nb, rfl, H2⟩
  have := new_evict h hnd (by rw [hnos]; exact hn) (by omega) H2
  exact ⟨_, c + 1 + 1, rfl, this.1, by omega, this.2⟩
theorem p_clean (h : PS c fs rf) (H : Own B w0 w (poolR bp bm room c fs :: l)) :
    Calls Try.prog 17 #[.pointer (some ⟨bp, 0, none⟩)] w (PQ B w0 bp bm room c (rf.map fun g => { g with d := false }) l (.tuple #[])) := by
  refine (clean_any H.openP).mono ?_
  rintro e w' ⟨rfl, H2⟩
  refine ⟨fs.map Fr.clean, c, rfl, ⟨by rw [← h.map]; simp, h.rise.map (fun _ => rfl), h.pos⟩, by omega, Own.shutP ?_ H2⟩
  rw [List.map_map]; exact .refl _
theorem filter_blocks : (fs.map fB).Perm ((fs.filter (·.d)).map fB ++ (fs.filter (!·.d)).map fB) := by
  rw [← List.map_append]
  exact ((List.filter_append_perm (·.d) fs).map fB).symm
theorem p_drop (h : PS c fs rf) (hl : rf.length ≤ 1000000) (H : Own B w0 w (poolR bp bm room c fs :: l)) :
    Calls Try.prog 21 #[.pointer (some ⟨bp, 0, none⟩)] w (PQ B w0 bp bm room c (rf.filter (!·.d)) l (.tuple #[])) := by
  refine (drop_any (by rw [h.len]; exact hl) H.openP).mono ?_
  rintro e w' ⟨rfl, H2⟩
  refine ⟨fs.filter (!·.d), c, rfl, ⟨by rw [← h.map, List.filter_map]; rfl, h.rise.sub List.filter_sublist, h.pos⟩, by omega, Own.shutP (.refl _) ?_⟩
  have hp : (pB bp bm room c :: mPool bm ((fs.filter (!·.d)).map ent) :: (fs.map fB ++ l)).Perm ((fs.filter (·.d)).map fB ++ (pB bp bm room c :: mPool bm ((fs.filter (!·.d)).map ent) :: ((fs.filter (!·.d)).map fB ++ l))) := by
    have h1 := (filter_blocks (fs := fs)).append_right l
    rw [List.append_assoc] at h1
    refine ((h1.cons _).cons _).trans ?_
    exact (List.perm_append_comm_assoc [pB bp bm room c, mPool bm ((fs.filter (!·.d)).map ent)] _ _)
  exact (H2.perm hp.symm).sub (List.sublist_append_right _ _)
theorem p_len (h : PS c fs rf) (H : Own B w0 w (poolR bp bm room c fs :: l)) :
    Calls Try.prog 22 #[.pointer (some ⟨bp, 0, none⟩)] w fun e w' => e = .returned (.int .i64 (rf.length : Int)) ∧ Own B w0 w' (poolR bp bm room c fs :: l) := by
  refine (plen_any H.openP).mono ?_
  rintro e w' ⟨rfl, H2⟩
  exact ⟨by rw [List.length_map, h.len], Own.shutP (.refl _) H2⟩
/-- The numbers of the dirty ones, rising. -/
def dirt (rf : List Rf) : List Int := srt ((rf.filter (·.d)).map (·.no))
theorem p_dirty (h : PS c fs rf) (hl : rf.length ≤ 1000000) (H : Own B w0 w (poolR bp bm room c fs :: l)) :
    Calls Try.prog 30 #[.pointer (some ⟨bp, 0, none⟩)] w fun e w' => ∃ Ag cg, e = .returned (.slice Ag (dirt rf).length cg) ∧ Own B w0 w' (.grow 3 1 (.slice Ag (dirt rf).length cg) (dirt rf).length (iL (dirt rf)) :: poolR bp bm room c fs :: l) := by
  have hd : srt (dirtyNos fs) = dirt rf := by
    unfold dirt dirtyNos
    rw [← h.map, List.filter_map, List.map_map]; rfl
  refine (dirty_any (by rw [h.len]; exact hl) H.openP).mono ?_
  rw [hd]
  rintro e w' ⟨Ag, cg, rfl, H2⟩
  refine ⟨Ag, cg, rfl, ?_⟩
  have H3 : Own B w0 w' (pB bp bm room c :: mPool bm (fs.map ent) :: (fs.map fB ++ (.grow 3 1 (.slice Ag (dirt rf).length cg) (dirt rf).length (iL (dirt rf)) :: l))) := by
    have := perm_pull (x := Res.grow 3 1 (.slice Ag (dirt rf).length cg) (dirt rf).length (iL (dirt rf))) [pB bp bm room c, mPool bm (fs.map ent)] (fs.map fB) [] l
    exact H2.perm (by simpa using this.symm)
  exact (Own.shutP (.refl _) H3).swap
end
end Go.Proofs.Ytbpclhgbobiahaa
