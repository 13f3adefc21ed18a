/-
  Resources: several as one; many blocks, one of which is taken out. Nothing of the program stands here.
-/
import Derived.Test.YtlhmjhildlnokaaOwn7
namespace Go.Proofs.Ytlhmjhildlnokaa
set_option linter.unusedVariables false
open Go.RowKit
variable {B : Nat} {w0 w w' : World} {l l' m : List Res}

abbrev Res.ap (r r' : Res) : Prop := (r.ro = true ∧ r'.ro = true) ∨ ∀ k, r.foot k → ¬ r'.foot k
/-- Several resources as one. -/
def packP (m : List Res) (w : World) : Prop := (∀ r ∈ m, r.holds w) ∧ m.Pairwise Res.ap
def packR (m : List Res) : Res := .any false (fun k => ∃ r ∈ m, r.foot k) (packP m)
theorem Own.pack (H : Own B w0 w (m ++ l)) (hm : ∀ r ∈ m, r.ro = false) : Own B w0 w (packR m :: l) := by
  have hp := List.pairwise_append.1 H.apart
  refine ⟨H.below, H.base, fun r hr => ?_, fun r hr k hk => ?_, .cons (fun r' hr' => .inr fun k hk => ?_) hp.2.1⟩
  · rcases List.mem_cons.1 hr with rfl | hr
    · intro w' hw'
      exact ⟨fun r hr => Res.holds_stable (H.holds r (List.mem_append_left _ hr)) fun k hk => hw' k ⟨r, hr, hk⟩, hp.1⟩
    · exact H.holds r (List.mem_append_right _ hr)
  · rcases List.mem_cons.1 hr with rfl | hr
    · obtain ⟨r, hr, hk⟩ := hk
      have := H.lt r (List.mem_append_left _ hr) k hk
      exact ⟨this.1, fun _ => this.2 (hm r hr)⟩
    · exact H.lt r (List.mem_append_right _ hr) k hk
  · obtain ⟨r, hr, hk⟩ := hk
    rcases hp.2.2 r hr r' hr' with h | h
    · rw [hm r hr] at h; cases h.1
    · exact h k hk
theorem Own.unpack (H : Own B w0 w (packR m :: l)) (hm : ∀ r ∈ m, r.ro = false) : Own B w0 w (m ++ l) := by
  have hP : packP m w := H.holds _ m0 w fun _ _ => rfl
  have ha := List.pairwise_cons.1 H.apart
  refine ⟨H.below, H.base, fun r hr => ?_, fun r hr k hk => ?_, List.pairwise_append.2 ⟨hP.2, ha.2, fun r hr r' hr' => .inr fun k hk => ?_⟩⟩
  · rcases List.mem_append.1 hr with hr | hr
    · exact hP.1 r hr
    · exact H.holds r (List.mem_cons_of_mem _ hr)
  · rcases List.mem_append.1 hr with hr' | hr'
    · have := H.lt _ m0 k ⟨r, hr', hk⟩
      exact ⟨this.1, fun _ => this.2 rfl⟩
    · exact H.lt r (List.mem_cons_of_mem _ hr') k hk
  · rcases ha.1 r' hr' with h | h
    · cases h.1
    · exact h k ⟨r, hr, hk⟩
theorem Own.rot2 {x y z : Res} (H : Own B w0 w (x :: y :: z :: l)) : Own B w0 w (y :: z :: x :: l) := H.perm (List.Perm.trans (l₂ := y :: x :: z :: l) (.cons _ (.swap _ _ _)) (.swap _ _ _))
theorem Own.rot2' {x y z : Res} (H : Own B w0 w (y :: z :: x :: l)) : Own B w0 w (x :: y :: z :: l) := H.perm (List.Perm.trans (l₂ := y :: x :: z :: l) (.swap _ _ _) (.cons _ (.swap _ _ _)))
/-- One of many to the front. -/
theorem perm_pull {x : Res} (k L1 L2 l : List Res) : (x :: (k ++ (L1 ++ L2 ++ l))).Perm (k ++ (L1 ++ x :: L2 ++ l)) := by
  have h1 : (k ++ (L1 ++ x :: L2 ++ l)).Perm (k ++ (x :: (L1 ++ L2 ++ l))) := by
    refine List.Perm.append_left _ ?_
    simp only [List.append_assoc, List.cons_append]
    exact List.perm_middle
  exact (h1.trans List.perm_middle).symm
theorem perm_split {α β : Type} {f : α → β} {l : List α} {b : β} {r : List β} (h : (l.map f).Perm (b :: r)) : ∃ L1 a L2, l = L1 ++ a :: L2 ∧ f a = b ∧ ((L1 ++ L2).map f).Perm r := by
  have hb : b ∈ l.map f := h.mem_iff.2 (by simp)
  obtain ⟨a, ha, rfl⟩ := List.mem_map.1 hb
  obtain ⟨L1, L2, rfl⟩ := List.append_of_mem ha
  refine ⟨L1, a, L2, rfl, rfl, ?_⟩
  have h2 : ((L1 ++ a :: L2).map f).Perm (f a :: (L1 ++ L2).map f) := by
    simp only [List.map_append, List.map_cons]; exact List.perm_middle
  exact (List.perm_cons _).1 (h2.symm.trans h)
end Go.Proofs.Ytlhmjhildlnokaa
