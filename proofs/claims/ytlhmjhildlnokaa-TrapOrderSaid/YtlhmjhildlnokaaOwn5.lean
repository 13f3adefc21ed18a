/-
  Resources: more places; many rows that are read, as one resource. Nothing of the program stands here.
-/
import Derived.Test.YtlhmjhildlnokaaOwn3
namespace Go.Proofs.Ytlhmjhildlnokaa
set_option linter.unusedVariables false
open Go.RowKit

theorem m10 {r x0 x1 x2 x3 x4 x5 x6 x7 x8 x9 : Res} {l : List Res} : r ∈ x0 :: x1 :: x2 :: x3 :: x4 :: x5 :: x6 :: x7 :: x8 :: x9 :: r :: l := .tail _ m9
theorem m11 {r x0 x1 x2 x3 x4 x5 x6 x7 x8 x9 x10 : Res} {l : List Res} : r ∈ x0 :: x1 :: x2 :: x3 :: x4 :: x5 :: x6 :: x7 :: x8 :: x9 :: x10 :: r :: l := .tail _ m10
theorem m12 {r x0 x1 x2 x3 x4 x5 x6 x7 x8 x9 x10 x11 : Res} {l : List Res} : r ∈ x0 :: x1 :: x2 :: x3 :: x4 :: x5 :: x6 :: x7 :: x8 :: x9 :: x10 :: x11 :: r :: l := .tail _ m11
theorem m13 {r x0 x1 x2 x3 x4 x5 x6 x7 x8 x9 x10 x11 x12 : Res} {l : List Res} : r ∈ x0 :: x1 :: x2 :: x3 :: x4 :: x5 :: x6 :: x7 :: x8 :: x9 :: x10 :: x11 :: x12 :: r :: l := .tail _ m12
theorem m14 {r x0 x1 x2 x3 x4 x5 x6 x7 x8 x9 x10 x11 x12 x13 : Res} {l : List Res} : r ∈ x0 :: x1 :: x2 :: x3 :: x4 :: x5 :: x6 :: x7 :: x8 :: x9 :: x10 :: x11 :: x12 :: x13 :: r :: l := .tail _ m13
theorem m15 {r x0 x1 x2 x3 x4 x5 x6 x7 x8 x9 x10 x11 x12 x13 x14 : Res} {l : List Res} : r ∈ x0 :: x1 :: x2 :: x3 :: x4 :: x5 :: x6 :: x7 :: x8 :: x9 :: x10 :: x11 :: x12 :: x13 :: x14 :: r :: l := .tail _ m14
theorem m16 {r x0 x1 x2 x3 x4 x5 x6 x7 x8 x9 x10 x11 x12 x13 x14 x15 : Res} {l : List Res} : r ∈ x0 :: x1 :: x2 :: x3 :: x4 :: x5 :: x6 :: x7 :: x8 :: x9 :: x10 :: x11 :: x12 :: x13 :: x14 :: x15 :: r :: l := .tail _ m15
theorem m17 {r x0 x1 x2 x3 x4 x5 x6 x7 x8 x9 x10 x11 x12 x13 x14 x15 x16 : Res} {l : List Res} : r ∈ x0 :: x1 :: x2 :: x3 :: x4 :: x5 :: x6 :: x7 :: x8 :: x9 :: x10 :: x11 :: x12 :: x13 :: x14 :: x15 :: x16 :: r :: l := .tail _ m16
theorem r10 {r r' x0 x1 x2 x3 x4 x5 x6 x7 x8 x9 : Res} {l : List Res} : Rep r r' (x0 :: x1 :: x2 :: x3 :: x4 :: x5 :: x6 :: x7 :: x8 :: x9 :: r :: l) (x0 :: x1 :: x2 :: x3 :: x4 :: x5 :: x6 :: x7 :: x8 :: x9 :: r' :: l) := .there r9
theorem r11 {r r' x0 x1 x2 x3 x4 x5 x6 x7 x8 x9 x10 : Res} {l : List Res} : Rep r r' (x0 :: x1 :: x2 :: x3 :: x4 :: x5 :: x6 :: x7 :: x8 :: x9 :: x10 :: r :: l) (x0 :: x1 :: x2 :: x3 :: x4 :: x5 :: x6 :: x7 :: x8 :: x9 :: x10 :: r' :: l) := .there r10
theorem r12 {r r' x0 x1 x2 x3 x4 x5 x6 x7 x8 x9 x10 x11 : Res} {l : List Res} : Rep r r' (x0 :: x1 :: x2 :: x3 :: x4 :: x5 :: x6 :: x7 :: x8 :: x9 :: x10 :: x11 :: r :: l) (x0 :: x1 :: x2 :: x3 :: x4 :: x5 :: x6 :: x7 :: x8 :: x9 :: x10 :: x11 :: r' :: l) := .there r11
theorem r13 {r r' x0 x1 x2 x3 x4 x5 x6 x7 x8 x9 x10 x11 x12 : Res} {l : List Res} : Rep r r' (x0 :: x1 :: x2 :: x3 :: x4 :: x5 :: x6 :: x7 :: x8 :: x9 :: x10 :: x11 :: x12 :: r :: l) (x0 :: x1 :: x2 :: x3 :: x4 :: x5 :: x6 :: x7 :: x8 :: x9 :: x10 :: x11 :: x12 :: r' :: l) := .there r12
theorem r14 {r r' x0 x1 x2 x3 x4 x5 x6 x7 x8 x9 x10 x11 x12 x13 : Res} {l : List Res} : Rep r r' (x0 :: x1 :: x2 :: x3 :: x4 :: x5 :: x6 :: x7 :: x8 :: x9 :: x10 :: x11 :: x12 :: x13 :: r :: l) (x0 :: x1 :: x2 :: x3 :: x4 :: x5 :: x6 :: x7 :: x8 :: x9 :: x10 :: x11 :: x12 :: x13 :: r' :: l) := .there r13
theorem r15 {r r' x0 x1 x2 x3 x4 x5 x6 x7 x8 x9 x10 x11 x12 x13 x14 : Res} {l : List Res} : Rep r r' (x0 :: x1 :: x2 :: x3 :: x4 :: x5 :: x6 :: x7 :: x8 :: x9 :: x10 :: x11 :: x12 :: x13 :: x14 :: r :: l) (x0 :: x1 :: x2 :: x3 :: x4 :: x5 :: x6 :: x7 :: x8 :: x9 :: x10 :: x11 :: x12 :: x13 :: x14 :: r' :: l) := .there r14
theorem r16 {r r' x0 x1 x2 x3 x4 x5 x6 x7 x8 x9 x10 x11 x12 x13 x14 x15 : Res} {l : List Res} : Rep r r' (x0 :: x1 :: x2 :: x3 :: x4 :: x5 :: x6 :: x7 :: x8 :: x9 :: x10 :: x11 :: x12 :: x13 :: x14 :: x15 :: r :: l) (x0 :: x1 :: x2 :: x3 :: x4 :: x5 :: x6 :: x7 :: x8 :: x9 :: x10 :: x11 :: x12 :: x13 :: x14 :: x15 :: r' :: l) := .there r15
theorem r17 {r r' x0 x1 x2 x3 x4 x5 x6 x7 x8 x9 x10 x11 x12 x13 x14 x15 x16 : Res} {l : List Res} : Rep r r' (x0 :: x1 :: x2 :: x3 :: x4 :: x5 :: x6 :: x7 :: x8 :: x9 :: x10 :: x11 :: x12 :: x13 :: x14 :: x15 :: x16 :: r :: l) (x0 :: x1 :: x2 :: x3 :: x4 :: x5 :: x6 :: x7 :: x8 :: x9 :: x10 :: x11 :: x12 :: x13 :: x14 :: x15 :: x16 :: r' :: l) := .there r16
theorem s9 {x0 x1 x2 x3 x4 x5 x6 x7 x8 : Res} {l : List Res} : Suf l (x0 :: x1 :: x2 :: x3 :: x4 :: x5 :: x6 :: x7 :: x8 :: l) := .there s8
theorem s10 {x0 x1 x2 x3 x4 x5 x6 x7 x8 x9 : Res} {l : List Res} : Suf l (x0 :: x1 :: x2 :: x3 :: x4 :: x5 :: x6 :: x7 :: x8 :: x9 :: l) := .there s9
theorem s11 {x0 x1 x2 x3 x4 x5 x6 x7 x8 x9 x10 : Res} {l : List Res} : Suf l (x0 :: x1 :: x2 :: x3 :: x4 :: x5 :: x6 :: x7 :: x8 :: x9 :: x10 :: l) := .there s10
theorem s12 {x0 x1 x2 x3 x4 x5 x6 x7 x8 x9 x10 x11 : Res} {l : List Res} : Suf l (x0 :: x1 :: x2 :: x3 :: x4 :: x5 :: x6 :: x7 :: x8 :: x9 :: x10 :: x11 :: l) := .there s11
theorem s13 {x0 x1 x2 x3 x4 x5 x6 x7 x8 x9 x10 x11 x12 : Res} {l : List Res} : Suf l (x0 :: x1 :: x2 :: x3 :: x4 :: x5 :: x6 :: x7 :: x8 :: x9 :: x10 :: x11 :: x12 :: l) := .there s12
theorem s14 {x0 x1 x2 x3 x4 x5 x6 x7 x8 x9 x10 x11 x12 x13 : Res} {l : List Res} : Suf l (x0 :: x1 :: x2 :: x3 :: x4 :: x5 :: x6 :: x7 :: x8 :: x9 :: x10 :: x11 :: x12 :: x13 :: l) := .there s13

variable {B : Nat} {w0 w w' : World} {l l' : List Res} {F : Nat → Prop}
/-- What is read and what may be written lie apart. -/
theorem Own.sep (H : Own B w0 w l) {r1 r2 : Res} (h1 : r1 ∈ l) (h2 : r2 ∈ l) (hr1 : r1.ro = true) (hr2 : r2.ro = false) : ∀ k, r1.foot k → ¬ r2.foot k := by
  have key : ∀ (m : List Res), m.Pairwise (fun r r' => (r.ro = true ∧ r'.ro = true) ∨ ∀ k, r.foot k → ¬ r'.foot k) → r1 ∈ m → r2 ∈ m → ∀ k, r1.foot k → ¬ r2.foot k := by
    intro m hp
    induction hp with
    | nil => intro h; cases h
    | cons h1 h2 ih =>
      rename_i x m'
      intro hx hr k hk
      rcases List.mem_cons.1 hx with e1 | e1
      · rcases List.mem_cons.1 hr with e2 | e2
        · rw [e1, ← e2, hr2] at hr1; cases hr1
        · rcases h1 r2 e2 with h | h
          · rw [hr2] at h; cases h.2
          · rw [← e1] at h; exact h k hk
      · rcases List.mem_cons.1 hr with e2 | e2
        · rcases h1 _ e1 with h | h
          · rw [← e2, hr2] at h; cases h.1
          · rw [← e2] at h; exact fun h2 => h k h2 hk
        · exact ih e1 e2 k hk
  exact key l H.apart h1 h2
/-- A resource that is only read, and lies where others that are only read lie. -/
theorem Own.addRo (H : Own B w0 w l) (r : Res) (hr : r.ro = true) (h : r.holds w) (hf : ∀ k, r.foot k → ∃ r' ∈ l, r'.ro = true ∧ r'.foot k) : Own B w0 w (r :: l) := by
  refine H.add r h (fun k hk => ?_) (fun r' hr' => ?_)
  · obtain ⟨r', h1, h2, h3⟩ := hf k hk
    exact ⟨(H.lt r' h1 k h3).1, fun h => by rw [hr] at h; cases h⟩
  · cases hro : r'.ro with
    | true => exact .inl ⟨hr, rfl⟩
    | false =>
      refine .inr fun k hk => ?_
      obtain ⟨q, h1, h2, h3⟩ := hf k hk
      exact H.sep h1 hr' h2 hro k h3
theorem Own.copy (H : Own B w0 w l) {r : Res} (hm : r ∈ l) (hr : r.ro = true) : Own B w0 w (r :: l) := H.addRo r hr (H.holds r hm) fun k hk => ⟨r, hm, hr, hk⟩
theorem Own.rdNil (H : Own B w0 w l) (A : Option Addr) (b off : Nat) : Own B w0 w (.rd A b off [] :: l) := H.addRo _ rfl ⟨by simp, by simp⟩ fun k hk => absurd hk.2 (by simp)
/-- A row of cells that is read: address, block, offset, cells, capacity. -/
structure Rw where
  A : Option Addr
  b : Nat
  off : Nat
  xs : List Value
  c : Nat
def Rw.foot (r : Rw) (k : Nat) : Prop := k = r.b ∧ 0 < r.xs.length
def Rw.val (r : Rw) : Value := .slice r.A r.xs.length r.c
def rwsP (L : List Rw) (w : World) : Prop := ∀ r ∈ L, (0 < r.xs.length → r.A = some ⟨r.b, r.off, none⟩) ∧ ∀ j v, r.xs[j]? = some v → w.cell? ⟨r.b, r.off + j, none⟩ = some v
/-- Many rows that are read. -/
def rws (L : List Rw) : Res := .any true (fun k => ∃ r ∈ L, r.foot k) (rwsP L)
theorem rwsP_stable {L : List Rw} (h : rwsP L w) (hw : ∀ k, (∃ r ∈ L, r.foot k) → w'.heap[k]? = w.heap[k]?) : rwsP L w' := by
  intro r hr
  refine ⟨(h r hr).1, fun j v hv => ?_⟩
  have hp : 0 < r.xs.length := Nat.lt_of_le_of_lt (Nat.zero_le _) (List.getElem?_eq_some_iff.1 hv).1
  rw [World.cell?_of_block (w := w) (hw r.b ⟨r, hr, rfl, hp⟩)]
  exact (h r hr).2 j v hv
theorem rws_holds {L : List Rw} (h : rwsP L w) : (rws L).holds w := fun w' hw' => rwsP_stable h hw'
theorem Own.rws_out (H : Own B w0 w l) {L : List Rw} (hm : rws L ∈ l) : rwsP L w := H.holds _ hm w fun _ _ => rfl
theorem Own.rws_nil (H : Own B w0 w l) : Own B w0 w (rws [] :: l) := H.addRo _ rfl (rws_holds fun _ h => by cases h) (fun k ⟨r, h, _⟩ => by cases h)
/-- One of many rows. -/
theorem Own.pick (H : Own B w0 w l) {L : List Rw} (hm : rws L ∈ l) {r : Rw} (hr : r ∈ L) : Own B w0 w (.rd r.A r.b r.off r.xs :: l) :=
  H.addRo _ rfl (H.rws_out hm r hr) fun k hk => ⟨_, hm, rfl, r, hr, hk⟩
/-- One row more. -/
theorem Own.push (H : Own B w0 w l) {L : List Rw} (hm : rws L ∈ l) {A : Option Addr} {b off : Nat} {xs : List Value} (hr : .rd A b off xs ∈ l) (c : Nat) : Own B w0 w (rws (L ++ [⟨A, b, off, xs, c⟩]) :: l) := by
  refine H.addRo _ rfl (rws_holds fun r hr' => ?_) fun k hk => ?_
  · rcases List.mem_append.1 hr' with h | h
    · exact H.rws_out hm r h
    · obtain rfl := List.mem_singleton.1 h
      exact H.holds _ hr
  · obtain ⟨r, h, hf⟩ := hk
    rcases List.mem_append.1 h with h | h
    · exact ⟨_, hm, rfl, r, h, hf⟩
    · obtain rfl := List.mem_singleton.1 h
      exact ⟨_, hr, rfl, hf⟩
/-- A slice that has grown is only read from here on. -/
theorem Own.growRd {e size n : Nat} {v : Value} {xs : List Value} (H : Own B w0 w (.grow e size v n xs :: l)) : ∃ A b cap, v = .slice A n cap ∧ n ≤ cap ∧ cap ≤ maxLen ∧ Own B w0 w (.rd A b 0 xs :: l) ∧ (0 < xs.length → B ≤ b) := by
  have h := H.holds _ m0
  rcases h.2 with ⟨rfl, rfl⟩ | ⟨g, cap, cur, rfl, hbg, hg, hnc, hcm, hcs, htake⟩
  · have hx := h.1
    simp at hx
    subst hx
    exact ⟨none, 0, 0, rfl, Nat.le_refl _, Nat.zero_le _, H.tail.addRo _ rfl ⟨by simp, by simp⟩ (fun k hk => absurd hk.2 (by simp)), fun h => by simp at h⟩
  · have hl := H.lt _ m0 g rfl
    refine ⟨some ⟨g, 0, none⟩, g, cap, rfl, hnc, hcm, ?_, fun _ => hl.2 rfl⟩
    refine H.tail.add _ ⟨fun _ => rfl, fun j v hv => ?_⟩ (fun k hk => ⟨?_, fun h => by cases h⟩) (fun r' hr' => ?_)
    · have := h.cells (g := g) rfl j v hv
      rwa [Addr.add_mid] at this
    · obtain ⟨rfl, _⟩ := hk; exact hl.1
    · rcases (List.pairwise_cons.1 H.apart).1 r' hr' with h' | h'
      · exact absurd h'.1 (by simp [Res.ro])
      · refine .inr fun k hk => ?_
        obtain ⟨rfl, _⟩ := hk
        exact h' k rfl
end Go.Proofs.Ytlhmjhildlnokaa
