/-
  The library's slices.SortFunc at elements of one cell, as a contract on resources. Nothing of the program stands here.
-/
import Derived.Test.YtlhmjhildlnokaaSortK
import Derived.Shelf.SlSortCmp.Whole1
namespace Go.Proofs.Ytlhmjhildlnokaa
set_option linter.unusedVariables false
set_option linter.unusedSectionVars false
set_option linter.unusedSimpArgs false
open Go.RowKit Go.Shelf Go.Sort Go.Lib

section
variable {α : Type} [Inhabited α] {P : Program} {ρ : Ren} {B : Nat} {w0 w : World} {l : List Res} {enc : α → Value} {n b cap : Nat} {e : TypeId} {xs : List α}
theorem sort1W_heap {W : World} {m : Nat} {dk : Array α} {os : Array Obj} (hW : W = sortWorld enc w b 0 m dk os) : (∀ j, j < w.heap.size → j ≠ b → W.heap[j]? = w.heap[j]?) ∧ w.heap.size ≤ W.heap.size ∧ W.os = w.os ∧ W.tape = w.tape ∧ W.output = w.output ∧ w.drawn ≤ W.drawn := by
  subst hW
  unfold sortWorld
  refine ⟨fun j hj hne => ?_, by simp [Sort.grow, Sort.putRow, Sort.mapBlock, Sort.ahead], rfl, rfl, rfl, Nat.le_add_right _ _⟩
  rw [Sort.heap_grow_old _ _ (by simpa using hj)]
  have : b ≠ j := fun e => hne e.symm
  simp [Sort.putRow, Sort.mapBlock, Sort.ahead, Array.getElem?_modify, this]
theorem sort1_any (L : SlLaysF.n6 P ρ) (h1 : OneCell enc) (cf : α → α → Int) (hO : Sort.SWO (ltOf cf)) (g : Nat) (cb : Array Value)
    (eg : ∀ args w, (callFunc g args).run P w = .ok (.enter g args) w) (hn : n = xs.length) (hl : n ≤ 1000000) (H : Own B w0 w (.grow e 1 (.slice (some ⟨b, 0, none⟩) n cap) n (xs.map enc) :: l))
    (hcmp : ∀ W, (∀ r ∈ l, r.holds W ∧ ∀ j, r.foot j → j < W.heap.size) → ∀ x y, Calls P g (#[enc x, enc y] ++ cb) W fun r W' => r = .returned (.int .i64 (cf x y)) ∧ Below W.heap.size W W') :
    Calls P (ρ.f 6) #[.slice (some ⟨b, 0, none⟩) n cap, .func (.func g) #[] cb] w fun r w' => r = .returned (.tuple #[]) ∧ ∃ ys : List α, ys.Perm xs ∧ ys.Pairwise (fun x y => ltOf cf y x = false) ∧ Own B w0 w' (.grow e 1 (.slice (some ⟨b, 0, none⟩) n cap) n (ys.map enc) :: l) := by
  subst hn
  have h := H.holds _ m0
  have hlt := H.lt _ m0 b rfl
  have hap := (List.pairwise_cons.1 H.apart).1
  rcases h.2 with ⟨h0, _⟩ | ⟨gg, cap', cur, hv, hbg, hg, hnc, hcm, hcs, htake⟩
  · cases h0
  injection hv with e1 e2 e3
  injection e1 with e1
  injection e1 with e1
  subst e1 e3
  simp only [Nat.mul_one] at htake hcs
  have hH : Holds enc w b 0 xs.toArray := by
    intro j hj
    simp only [List.size_toArray] at hj
    refine ⟨?_, by simp [World.frozen?, hg]⟩
    have h3 : (cur.toList.take xs.length)[j]? = (xs.map enc)[j]? := by rw [htake]
    rw [List.getElem?_take_of_lt hj, Array.getElem?_toList, List.getElem?_map, List.getElem?_eq_getElem hj] at h3
    simp only [World.cell?, hg, Nat.zero_add, Option.isSome_none, Bool.false_eq_true, if_false, id]
    rw [h3]
    simp [hj]
  have hC : CmpLays1 P g cb enc cf b 0 xs.toArray.size w := by
    intro m os dk hs x y
    generalize hW : sortWorld enc w b 0 m dk os = W
    have hh := sort1W_heap hW.symm
    refine (hcmp W (fun r hr => ?_) x y).mono fun r W' hr => ⟨hr.1, below_grow hr.2⟩
    have hne : ∀ j, r.foot j → j < w.heap.size ∧ j ≠ b := fun j hj => ⟨(H.lt r (List.mem_cons_of_mem _ hr) j hj).1, fun e => by
      rcases hap r hr with h5 | h5
      · cases h5.1
      · exact h5 b rfl (e ▸ hj)⟩
    exact ⟨Res.holds_stable (H.holds r (List.mem_cons_of_mem _ hr)) fun j hj => hh.1 j (hne j hj).1 (hne j hj).2, fun j hj => Nat.lt_of_lt_of_le (hne j hj).1 hh.2.1⟩
  refine (Any.slices_SortFunc (P := P) (ρ := ρ) L enc h1 cf hO g cb b 0 cap xs.toArray w eg hC hH hlt.1 (by simp; omega)).mono ?_
  rintro r w' ⟨hr, d', m, os, hp, hs, hw⟩
  refine ⟨hr, d'.toList, ?_, ?_, ?_⟩
  · have := hp.2.2
    have hz := hp.1
    simp only [List.size_toArray] at this hz
    rw [Array.extract_eq_self_of_le (by omega), Array.extract_eq_self_of_le (by simp)] at this
    simpa using this
  · rw [List.pairwise_iff_getElem]
    intro i j hi hj hij
    have hz := hp.1
    simp only [List.size_toArray] at hz
    have hi' : i < d'.size := by simpa using hi
    have hj' : j < d'.size := by simpa using hj
    have := hs i j (Nat.zero_le _) hij (by simp; omega)
    rw [getElem!_pos d' j hj', getElem!_pos d' i hi'] at this
    simpa using this
  · have hh := sort1W_heap hw
    have hz : d'.toList.length = xs.length := by have := hp.1; simpa using this
    have hle : xs.length ≤ cur.size := by rw [hcs]; exact hnc
    have hg' : w'.heap[b]? = some (.cells (Sort.putCells enc 0 d' cur) e (0, 0)) := by
      subst hw
      unfold sortWorld
      rw [Sort.heap_grow_old _ _ (by simpa using hlt.1)]
      simp [Sort.putRow, Sort.mapBlock, Sort.ahead, Array.getElem?_modify, hg, Sort.onCells]
    refine H.change r0 rfl rfl (.mk6 hh.2.2.1 hh.2.2.2.1 hh.2.2.2.2.1 hh.2.1 (fun j hj => hh.1 j (Nat.lt_of_lt_of_le hj H.base) (fun e => by have := hlt.2 rfl; omega)) hh.2.2.2.2.2) (fun j hj hne => hh.1 j hj (fun e => hne (by rw [e]; rfl)))
      ⟨by rw [List.length_map, hz, Nat.mul_one], .inr ⟨b, cap, _, rfl, Nat.zero_le _, hg', hnc, hcm, by simp [Sort.putCells, hcs], ?_⟩⟩ (fun j hj => ?_) (fun j hj => .inl hj)
    · rw [Nat.mul_one]
      apply List.ext_getElem?
      intro j
      by_cases hj : j < xs.length
      · have hj' : j < d'.size := by simpa [← hz] using hj
        rw [List.getElem?_take_of_lt hj, List.getElem?_map, Array.getElem?_toList]
        simp [Sort.putCells, hj', show j < cur.size by omega]
      · rw [List.getElem?_take_eq_none (by omega), List.getElem?_eq_none (by rw [List.length_map, hz]; omega)]
    · obtain rfl : b = j := by injection hj
      exact Nat.lt_of_lt_of_le hlt.1 hh.2.1
end
end Go.Proofs.Ytlhmjhildlnokaa
