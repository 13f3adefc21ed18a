/-
  Slices that are handed over: what a contract says of them. Nothing of the program stands here.
-/
import Derived.Test.YtlhmjhildlnokaaOwn2
import Derived.Lib.Hide
import Derived.Deep.LoopGhost
import Derived.BigQuiet
import Derived.BigGuardPart
import Derived.BigCall
namespace Go.Proofs.Ytlhmjhildlnokaa
set_option linter.unusedVariables false
open Go.RowKit
variable {P : Program} {B : Nat} {w0 w w' : World} {l l' : List Res} {F : Nat → Prop}

/-- The cells xs lie behind A, in a block that is none of F's. -/
def Sl (F : Nat → Prop) (w : World) (A : Option Addr) (xs : List Value) : Prop :=
  ∃ b off, (0 < xs.length → A = some ⟨b, off, none⟩ ∧ b < w.heap.size ∧ ¬ F b) ∧ ∀ j v, xs[j]? = some v → w.cell? ⟨b, off + j, none⟩ = some v
theorem Sl.ext {A : Option Addr} {xs : List Value} (h : Sl F w A xs) (hb : Below w.heap.size w w') : Sl F w' A xs := by
  obtain ⟨b, off, h1, h2⟩ := h
  exact ⟨b, off, fun hp => ⟨(h1 hp).1, Nat.lt_of_lt_of_le (h1 hp).2.1 hb.size, (h1 hp).2.2⟩, fun j v hv => below_cell hb (h2 j v hv)⟩
theorem Sl.nil_ (F : Nat → Prop) (w : World) (A : Option Addr) : Sl F w A [] := ⟨0, 0, by simp, by simp⟩
theorem Sl.fewer {G : Nat → Prop} {A : Option Addr} {xs : List Value} (h : Sl F w A xs) (hG : ∀ k, G k → F k) : Sl G w A xs := by
  obtain ⟨b, off, h1, h2⟩ := h
  exact ⟨b, off, fun hp => ⟨(h1 hp).1, (h1 hp).2.1, fun hg => (h1 hp).2.2 (hG _ hg)⟩, h2⟩
/-- The blocks that a call may write. -/
def Wr (l : List Res) (k : Nat) : Prop := ∃ r ∈ l, r.ro = false ∧ r.foot k
theorem Own.wr_lt (H : Own B w0 w l) : ∀ k, Wr l k → k < w.heap.size := fun k ⟨r, hr, _, hk⟩ => (H.lt r hr k hk).1
/-- The blocks that this call's caller writes, and its own. -/
def FW (F : Nat → Prop) (l : List Res) (k : Nat) : Prop := F k ∨ Wr l k
theorem Own.fw_lt (H : Own B w0 w l) (hB : w0.heap.size = B) (hF : ∀ k, F k → k < w0.heap.size) : ∀ k, FW F l k → k < w.heap.size := fun k h => by
  rcases h with h | h
  · have := hF k h; have := H.base; omega
  · exact H.wr_lt k h
/-- What was handed over is one of the resources. -/
theorem Own.addSl {A : Option Addr} {xs : List Value} (H : Own B w0 w l) (h : Sl (FW F l) w A xs) : ∃ b off, Own B w0 w (.rd A b off xs :: l) ∧ (0 < xs.length → ¬ F b) := by
  obtain ⟨b, off, h1, h2⟩ := h
  refine ⟨b, off, H.add _ ⟨fun hp => (h1 hp).1, h2⟩ (fun k hk => ?_) (fun r hr => ?_), fun hp hf => (h1 hp).2.2 (.inl hf)⟩
  · obtain ⟨rfl, hp⟩ := hk
    exact ⟨(h1 hp).2.1, fun h => by cases h⟩
  · cases hro : r.ro with
    | true => exact .inl ⟨rfl, rfl⟩
    | false =>
      refine .inr fun k hk hk' => ?_
      obtain ⟨rfl, hp⟩ := hk
      exact (h1 hp).2.2 (.inr ⟨r, hr, hro, hk'⟩)
/-- A resource that is read can be handed on. -/
theorem Own.giveRd {A : Option Addr} {b off : Nat} {xs : List Value} (H : Own B w0 w l) (hm : Res.rd A b off xs ∈ l) (hF : 0 < xs.length → ¬ F b) : Sl (FW F l) w A xs := by
  have h := H.holds _ hm
  refine ⟨b, off, fun hp => ⟨h.1 hp, (H.lt _ hm b ⟨rfl, hp⟩).1, fun hw => ?_⟩, h.2⟩
  rcases hw with hw | ⟨r, hr, hro, hk⟩
  · exact hF hp hw
  · have key : ∀ (m : List Res), m.Pairwise (fun r r' => (r.ro = true ∧ r'.ro = true) ∨ ∀ k, r.foot k → ¬ r'.foot k) → Res.rd A b off xs ∈ m → r ∈ m → False := by
      intro m hp'
      induction hp' with
      | nil => intro h; cases h
      | cons h1 h2 ih =>
        rename_i x m'
        intro hx hr'
        rcases List.mem_cons.1 hx with e1 | e1
        · rcases List.mem_cons.1 hr' with e2 | e2
          · rw [e2, ← e1] at hro; cases hro
          · rcases h1 r e2 with h | h
            · rw [hro] at h; cases h.2
            · rw [← e1] at h; exact h b ⟨rfl, hp⟩ hk
        · rcases List.mem_cons.1 hr' with e2 | e2
          · rcases h1 _ e1 with h | h
            · rw [← e2, hro] at h; cases h.1
            · rw [← e2] at h; exact h b hk ⟨rfl, hp⟩
          · exact ih e1 e2
    exact key l H.apart hm hr
/-- A slice of the call's own can be handed on, or back. -/
theorem Own.giveGrow {e size n : Nat} {v : Value} {xs : List Value} (H : Own B w0 w l) (hm : Res.grow e size v n xs ∈ l) (hF : ∀ k, F k → k < B) : ∃ A cap, v = .slice A n cap ∧ n ≤ cap ∧ cap ≤ maxLen ∧ Sl F w A xs := by
  have h := H.holds _ hm
  rcases h.2 with ⟨rfl, rfl⟩ | ⟨g, cap, cur, rfl, hbg, hg, hnc, hcm, hcs, htake⟩
  · refine ⟨none, 0, rfl, Nat.le_refl _, Nat.zero_le _, ?_⟩
    have := h.1
    simp at this
    subst this
    exact Sl.nil_ _ _ _
  · have hl := H.lt _ hm g rfl
    refine ⟨_, cap, rfl, hnc, hcm, g, 0, fun _ => ⟨rfl, hl.1, fun hf => by have := hF g hf; have := hl.2 rfl; omega⟩, fun j v hv => ?_⟩
    have := h.cells (g := g) rfl j v hv
    rwa [Addr.add_mid] at this
theorem Own.giveCells {b : Nat} {row : List Value} (H : Own B w0 w l) (hm : Res.cells b row ∈ l) (hF : ∀ k, F k → k < B) (off : Nat) {xs : List Value} (hx : (row.drop off).take xs.length = xs) : Sl F w (some ⟨b, off, none⟩) xs := by
  have hl := H.lt _ hm b rfl
  exact ⟨b, off, fun _ => ⟨rfl, hl.1, fun hf => by have := hF b hf; have := hl.2 rfl; omega⟩, H.range (r := .cells b row) hm (b := b) (o := off) ⟨rfl, hx⟩⟩
theorem Sl.take {A : Option Addr} {xs : List Value} (h : Sl F w A xs) (k : Nat) : Sl F w A (xs.take k) := by
  obtain ⟨b, off, h1, h2⟩ := h
  refine ⟨b, off, fun hp => h1 (by simp at hp; omega), fun j v hv => h2 j v ?_⟩
  rw [List.getElem?_take] at hv
  split at hv
  · exact hv
  · cases hv
theorem Sl.fw {A : Option Addr} {xs : List Value} (h : Sl (FW F l) w A xs) : Sl F w A xs := h.fewer fun _ h => .inl h
theorem Sl.none_of {A : Option Addr} {xs : List Value} (h : Sl F w A xs) : Sl (fun _ => False) w A xs := h.fewer (fun _ h => h.elim)
theorem Own.rdAddr {A : Option Addr} {b off : Nat} {xs : List Value} (H : Own B w0 w l) (hm : Res.rd A b off xs ∈ l) (hp : 0 < xs.length) : A = some ⟨b, off, none⟩ := (H.holds _ hm).1 hp
theorem Sl.ro {A : Option Addr} {xs : List Value} (h : Sl F w A xs) (hl : l.all (·.ro) = true) : Sl (FW F l) w A xs := h.fewer fun k hk => by
  rcases hk with hk | ⟨r, hr, hro, _⟩
  · exact hk
  · rw [List.all_eq_true.1 hl r hr] at hro; cases hro
end Go.Proofs.Ytlhmjhildlnokaa
