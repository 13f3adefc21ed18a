/-
  The library's sort of a slice of whole numbers, as a contract on resources.
-/
import Derived.Test.YtbpclhgbobiahaaOwn7
import Derived.Test.YtbpclhgbobiahaaRows
import Derived.Test.YtbpclhgbobiahaaBase
import Derived.Test.YtbpclhgbobiahaaLayI
import Derived.Sort.OwnSortedInts
namespace Go.Proofs.Ytbpclhgbobiahaa
set_option linter.unusedVariables false
open Go.RowKit Go.Shelf

/-- Whole numbers, sorted. -/
def srt (xs : List Int) : List Int := xs.mergeSort fun x y => decide (x ≤ y)
variable {w w0 : World} {B : Nat} {l : List Res} {v : Value} {n : Nat} {xs : List Int}
theorem sort_any (hx : xs.length = n) (hn : n ≤ 1000000) (H : Own B w0 w (.grow 3 1 v n (xs.map (Value.int .i64)) :: l)) :
    Calls Try.prog 47 #[v] w fun e w' => e = .returned (.tuple #[]) ∧ Own B w0 w' (.grow 3 1 v n ((srt xs).map (Value.int .i64)) :: l) := by
  have h := H.holds _ m0
  have hlt := H.lt _ m0
  rcases h.2 with ⟨rfl, rfl⟩ | ⟨g, cap, cur, rfl, hbg, hg, hnc, hcm, hcs, htake⟩
  · refine (AnyM.slices_Sort_int_none (P := Try.prog) sortI none 0 w).mono ?_
    rintro e w' ⟨he, rfl⟩
    obtain rfl : xs = [] := List.eq_nil_of_length_eq_zero hx
    exact ⟨he, by simpa [srt] using H⟩
  · subst hx
    have hls : (srt xs).length = xs.length := by simp [srt]
    have hH : Sort.Holds (Value.int .i64) w g 0 xs.toArray := holds_of_blockI hg (by rw [Nat.mul_one] at htake; exact htake)
    have hgl := hlt g rfl
    refine (AnyM.slices_Sort_int (P := Try.prog) sortI g 0 cap xs w hH hgl.1 (by omega)).mono ?_
    rintro e w' ⟨he, k, os, rfl⟩
    refine ⟨he, ?_⟩
    have hw := grownBy_sortedI (w := w) (g := g) (n := k) (os := os) (srt xs).toArray
    have hb : Below B w (Sort.grow (Sort.putRow (Value.int .i64) (Sort.ahead w k) g 0 (srt xs).toArray) os) :=
      ⟨hw.os, hw.tape, hw.output, hw.size, fun k2 hk2 => hw.block k2 (Nat.lt_of_lt_of_le hk2 H.base) (fun e => by injection e with e; have := hgl.2 rfl; omega)⟩
    exact H.change r0 rfl rfl hb (fun k2 hk2 hne => hw.block k2 hk2 (fun e => hne (by injection e with e; rw [e]; rfl)))
      (ownsRow_sortedI hls (Nat.zero_le _) hg hnc hcm hcs) (fun k2 hk2 => by
        obtain rfl : g = k2 := by injection hk2
        exact Nat.lt_of_lt_of_le hgl.1 hw.size) (fun k2 hk2 => .inl hk2)
end Go.Proofs.Ytbpclhgbobiahaa
