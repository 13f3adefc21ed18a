/-
  Lists of halves that stand in a list: a resource that is read. No walk stands here.
-/
import Derived.Test.YtlhmjhildlnokaaSpin9
namespace Go.Proofs.Ytlhmjhildlnokaa
set_option linter.unusedVariables false
set_option linter.unusedSimpArgs false
open Go.RowKit

def RsP (hs : List Value) (rs : List (List Hf)) (w : World) : Prop := ∀ (i : Nat) (r : List Hf), rs[i]? = some r → ∃ A c, hs[i]? = some (Value.slice A r.length c) ∧ Sl (fun _ => False) w A (hR r)
def rsFoot (hs : List Value) (rs : List (List Hf)) (k : Nat) : Prop := ∃ (i : Nat) (r : List Hf) (off c : Nat), rs[i]? = some r ∧ 0 < (hR r).length ∧ hs[i]? = some (Value.slice (some ⟨k, off, none⟩) r.length c)
def RsR (hs : List Value) (rs : List (List Hf)) : Res := .any true (rsFoot hs rs) (RsP hs rs)
variable {B : Nat} {w0 w : World} {l : List Res} {hs : List Value} {rs : List (List Hf)} {F : Nat → Prop}
theorem rsP_keeps (h : RsP hs rs w) : (RsR hs rs).holds w := by
  intro w' hw i r hr
  obtain ⟨A, c, h1, b, off, h2, h3⟩ := h i r hr
  refine ⟨A, c, h1, b, off, fun hp => ?_, fun j v hv => ?_⟩
  · obtain ⟨rfl, h4, h5⟩ := h2 hp
    refine ⟨rfl, ?_, h5⟩
    have := hw b ⟨i, r, off, c, hr, hp, h1⟩
    exact Decidable.byContradiction fun q => by
      rw [Array.getElem?_eq_none (by omega), Array.getElem?_eq_getElem h4] at this
      cases this
  · have hp : 0 < (hR r).length := Nat.lt_of_le_of_lt (Nat.zero_le _) (List.getElem?_eq_some_iff.1 hv).1
    obtain ⟨rfl, h4, h5⟩ := h2 hp
    rw [World.cell?_of_block (w := w) (hw b ⟨i, r, off, c, hr, hp, h1⟩)]
    exact h3 j v hv
theorem Own.addRs (H : Own B w0 w l) (h : ∀ (i : Nat) (r : List Hf), rs[i]? = some r → ∃ A c, hs[i]? = some (Value.slice A r.length c) ∧ Sl (FW F l) w A (hR r)) : Own B w0 w (RsR hs rs :: l) := by
  have blk : ∀ k, rsFoot hs rs k → k < w.heap.size ∧ ¬ FW F l k := fun k ⟨i, r, off, c, h1, h2, h3⟩ => by
    obtain ⟨A, c', h4, b, off', h5, _⟩ := h i r h1
    rw [h3] at h4
    injection h4 with h4
    injection h4 with h4 _ _
    obtain ⟨h6, h7, h8⟩ := h5 h2
    rw [← h4] at h6
    injection h6 with h6
    injection h6 with h6 _ _
    subst h6
    exact ⟨h7, h8⟩
  refine H.add _ (rsP_keeps fun i r hr => ?_) (fun k hk => ⟨(blk k hk).1, fun q => by cases q⟩) (fun r' hr' => ?_)
  · obtain ⟨A, c, h1, h2⟩ := h i r hr
    exact ⟨A, c, h1, h2.fewer fun _ q => q.elim⟩
  · cases hro : r'.ro with
    | true => exact .inl ⟨rfl, rfl⟩
    | false => exact .inr fun k hk hk' => (blk k hk).2 (.inr ⟨r', hr', hro, hk'⟩)
theorem Own.giveRs (H : Own B w0 w l) (hm : RsR hs rs ∈ l) : RsP hs rs w := H.holds _ hm w fun _ _ => rfl
/-- The parts of an answer that is a list of lists. -/
theorem Own.addRet {A : Option Addr} (H : Own B w0 w l) (h1 : Sl (FW F l) w A hs) (h2 : ∀ (i : Nat) (r : List Hf), rs[i]? = some r → ∃ Ai ci, hs[i]? = some (Value.slice Ai r.length ci) ∧ Sl (FW F l) w Ai (hR r)) : ∃ b off, Own B w0 w (RsR hs rs :: .rd A b off hs :: l) := by
  obtain ⟨b, off, H2, _⟩ := H.addSl h1
  exact ⟨b, off, H2.addRs (F := F) fun i r hr => by
    obtain ⟨A', c, h3, h4⟩ := h2 i r hr
    exact ⟨A', c, h3, h4.cons_ro _ rfl⟩⟩
end Go.Proofs.Ytlhmjhildlnokaa
