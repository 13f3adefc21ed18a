/-
  The library's slices.SortFunc at structs of k cells, as a contract on resources. Nothing of the program stands here.
-/
import Derived.Test.YtlhmjhildlnokaaOwn7
import Derived.Shelf.SlSortCmp.WholeK
namespace Go.Proofs.Ytlhmjhildlnokaa
set_option linter.unusedVariables false
set_option linter.unusedSectionVars false
open Go.RowKit Go.Shelf Go.Sort Go.Lib

/-- What has grown is a world of the kit's kind. -/
theorem below_grow {w w' : World} (h : Below w.heap.size w w') : ∃ q os, w' = Sort.grow (w.drewN q) os := by
  refine ⟨w'.drawn - w.drawn, w'.heap.extract w.heap.size w'.heap.size, ?_⟩
  have hd := h.drawn
  have h1 := h.os
  have h2 := h.tape
  have h3 := h.output
  have h4 := h.size
  have h5 := h.block
  obtain ⟨heap, tape, drawn, os, output⟩ := w
  obtain ⟨heap', tape', drawn', os', output'⟩ := w'
  simp only at hd h1 h2 h3 h4 h5
  subst h1 h2 h3
  unfold Sort.grow World.drewN
  have hh : heap' = heap ++ heap'.extract heap.size heap'.size := by
    apply Array.ext_getElem?
    intro i
    rw [Array.getElem?_append]
    split
    · rename_i hi; exact h5 i hi
    · rename_i hi
      rw [Array.getElem?_extract]
      split
      · rw [show heap.size + (i - heap.size) = i by omega]
      · rename_i hi2
        rw [Array.getElem?_eq_none (by omega)]
  have hdr : drawn + (drawn' - drawn) = drawn' := by omega
  simp only [hdr, ← hh]
section
variable {α : Type} [Inhabited α] {enc : α → List Value} {k : Nat}
theorem flat_get (hk : ∀ x, (enc x).length = k) (hk0 : 0 < k) : ∀ (xs : List α) (t : Nat), (xs.flatMap enc)[t]? = (xs[t / k]?).bind fun x => (enc x)[t % k]?
  | [], t => by simp
  | a :: l, t => by
    rw [List.flatMap_cons, List.getElem?_append, hk]
    split
    · rename_i h
      rw [Nat.div_eq_of_lt h, Nat.mod_eq_of_lt h]; simp
    · rename_i h
      obtain ⟨u, rfl⟩ : ∃ u, t = u + k := ⟨t - k, by omega⟩
      rw [Nat.add_sub_cancel, flat_get hk hk0 l u, Nat.add_div_right _ hk0, Nat.add_mod_right]; rfl
theorem flatK_list (hk : ∀ x, (enc x).length = k) (hk0 : 0 < k) (xs : List α) : (flatK enc k xs.toArray).toList = xs.flatMap enc := by
  apply List.ext_getElem?
  intro t
  rw [flat_get hk hk0, Array.getElem?_toList]
  unfold flatK
  rw [Array.getElem?_map]
  by_cases ht : t < xs.toArray.size * k
  · have hq : t / k < xs.length := by
      have : t < k * xs.length := by rw [Nat.mul_comm]; simpa using ht
      exact Nat.div_lt_of_lt_mul this
    have hm : t % k < k := Nat.mod_lt _ hk0
    have e1 : (Array.range (xs.toArray.size * k))[t]? = some t := by rw [Array.getElem?_eq_getElem (by simpa using ht)]; simp
    rw [e1, List.getElem?_eq_getElem hq]
    simp only [Option.map_some, Option.bind_some]
    have e2 : xs.toArray[t / k]! = xs[t / k] := by simp [hq]
    rw [e2, List.getElem?_eq_getElem (by rw [hk]; exact hm)]
    congr 1
    exact getElem!_pos _ _ (by rw [hk]; exact hm)
  · have e1 : (Array.range (xs.toArray.size * k))[t]? = none := Array.getElem?_eq_none (by simp; simpa using ht)
    have hq : xs.length ≤ t / k := by
      have : xs.length * k ≤ t := by have := ht; simp at this; omega
      exact (Nat.le_div_iff_mul_le hk0).2 this
    rw [e1, List.getElem?_eq_none hq]; rfl
end
theorem flatMap_length {α : Type} {enc : α → List Value} {k : Nat} (hk : ∀ x, (enc x).length = k) : ∀ xs : List α, (xs.flatMap enc).length = xs.length * k
  | [] => by simp
  | a :: l => by rw [List.flatMap_cons, List.length_append, hk, flatMap_length hk l, List.length_cons, Nat.add_mul, Nat.one_mul, Nat.add_comm]
theorem take_put (cur F : Array Value) (h : F.size ≤ cur.size) : (Sort.putCells id 0 F cur).toList.take F.size = F.toList := by
  apply List.ext_getElem?
  intro j
  by_cases hj : j < F.size
  · rw [List.getElem?_take_of_lt hj, Array.getElem?_toList, Array.getElem?_toList]
    simp [Sort.putCells, hj, show j < cur.size by omega]
  · rw [List.getElem?_take_eq_none (by omega), List.getElem?_eq_none (by simp; omega)]
section
variable {α : Type} [Inhabited α] {P : Program} {ρ : Ren} {B : Nat} {w0 w : World} {l : List Res} {enc : α → List Value} {k n b cap : Nat} {e : TypeId} {xs : List α}
theorem sortW_heap {W : World} {m : Nat} {dk : Array α} {os : Array Obj} (hW : W = sortWorldK enc k w b 0 m dk os) : (∀ j, j < w.heap.size → j ≠ b → W.heap[j]? = w.heap[j]?) ∧ w.heap.size ≤ W.heap.size ∧ W.os = w.os ∧ W.tape = w.tape ∧ W.output = w.output ∧ w.drawn ≤ W.drawn := by
  subst hW
  unfold sortWorldK putRowK
  refine ⟨fun j hj hne => ?_, by simp [Sort.grow, Sort.putRow, Sort.mapBlock, Sort.ahead], rfl, rfl, rfl, Nat.le_add_right _ _⟩
  rw [Sort.heap_grow_old _ _ (by simpa using hj)]
  have : b ≠ j := fun e => hne e.symm
  simp [Sort.putRow, Sort.mapBlock, Sort.ahead, Array.getElem?_modify, this]
theorem sortK_any (L : SlLaysF0.n6 P ρ) (hk0 : 0 < k) (aE : ∀ w, (isAgg (ρ.t 24)).run P w = .ok true w) (zE : ∀ w, (Go.sizeOf (ρ.t 24)).run P w = .ok k w) (hk : ∀ x, (enc x).length = k) (h1 : ∀ x, ∀ v ∈ enc x, v.oneCell' = true) (cf : α → α → Int) (hO : Sort.SWO (ltOf cf)) (g : Nat) (cb : Array Value)
    (eg : ∀ args w, (callFunc g args).run P w = .ok (.enter g args) w) (hn : n = xs.length) (hl : n ≤ 1000000) (H : Own B w0 w (.grow e k (.slice (some ⟨b, 0, none⟩) n cap) n (xs.flatMap enc) :: l))
    (hcmp : ∀ W, (∀ r ∈ l, r.holds W ∧ ∀ j, r.foot j → j < W.heap.size) → ∀ x y, Calls P g (#[.agg (enc x).toArray, .agg (enc y).toArray] ++ cb) W fun r W' => r = .returned (.int .i64 (cf x y)) ∧ Below W.heap.size W W') :
    Calls P (ρ.f 6) #[.slice (some ⟨b, 0, none⟩) n cap, .func (.func g) #[] cb] w fun r w' => r = .returned (.tuple #[]) ∧ ∃ ys : List α, ys.Perm xs ∧ ys.Pairwise (fun x y => ltOf cf y x = false) ∧ Own B w0 w' (.grow e k (.slice (some ⟨b, 0, none⟩) n cap) n (ys.flatMap enc) :: l) := by
  subst hn
  have h := H.holds _ m0
  have hlt := H.lt _ m0 b rfl
  have hap := (List.pairwise_cons.1 H.apart).1
  rcases h.2 with ⟨h0, _⟩ | ⟨gg, cap', cur, hv, hbg, hg, hnc, hcm, hcs, htake⟩
  · cases h0
  injection hv with e1 e2 e3
  injection e1 with e1
  injection e1 with e1
  subst e1 e3
  have hfl := flatK_list hk hk0 xs
  have hfs : (flatK enc k xs.toArray).size = xs.length * k := by simp
  have hH : HoldsK enc k w b 0 xs.toArray := by
    intro j hj
    rw [hfs] at hj
    refine ⟨?_, by simp [World.frozen?, hg]⟩
    have h3 : (cur.toList.take (xs.length * k))[j]? = (xs.flatMap enc)[j]? := by rw [htake]
    rw [List.getElem?_take_of_lt hj, ← hfl, Array.getElem?_toList, Array.getElem?_toList] at h3
    simp only [World.cell?, hg, Nat.zero_add, Option.isSome_none, Bool.false_eq_true, if_false, id]
    rw [h3, Array.getElem?_eq_getElem (by omega), getElem!_pos _ _ (by omega)]
  have hC : CmpLays P g cb enc k cf b 0 xs.toArray.size w := by
    intro m os dk hs x y
    generalize hW : sortWorldK enc k w b 0 m dk os = W
    have hh := sortW_heap hW.symm
    refine (hcmp W (fun r hr => ?_) x y).mono fun r W' hr => ⟨hr.1, below_grow hr.2⟩
    have hne : ∀ j, r.foot j → j < w.heap.size ∧ j ≠ b := fun j hj => ⟨(H.lt r (List.mem_cons_of_mem _ hr) j hj).1, fun e => by
      rcases hap r hr with h5 | h5
      · cases h5.1
      · exact h5 b rfl (e ▸ hj)⟩
    exact ⟨Res.holds_stable (H.holds r (List.mem_cons_of_mem _ hr)) fun j hj => hh.1 j (hne j hj).1 (hne j hj).2, fun j hj => Nat.lt_of_lt_of_le (hne j hj).1 hh.2.1⟩
  refine (AnyQ.slices_SortFunc (P := P) (ρ := ρ) L k aE zE enc hk h1 cf hO g cb b 0 cap xs.toArray w eg hC hH hlt.1 (by simp; omega)).mono ?_
  rintro r w' ⟨hr, d', m, os, hp, hs, hw⟩
  refine ⟨hr, d'.toList, ?_, ?_, ?_⟩
  · have := hp.2.2
    have hz := hp.1
    simp only [List.size_toArray] at this hz
    rw [Array.extract_eq_self_of_le (by omega), Array.extract_eq_self_of_le (by simp)] at this
    simpa using this
  · rw [List.pairwise_iff_getElem]
    intro i j hi hj hij
    have hz := hp.1
    simp only [List.size_toArray] at hz
    have hi' : i < d'.size := by simpa using hi
    have hj' : j < d'.size := by simpa using hj
    have := hs i j (Nat.zero_le _) hij (by simp; omega)
    rw [getElem!_pos d' j hj', getElem!_pos d' i hi'] at this
    simpa using this
  · have hh := sortW_heap hw
    have hz : d'.toList.length = xs.length := by have := hp.1; simpa using this
    have hfl2 : (flatK enc k d').toList = d'.toList.flatMap enc := by
      have := flatK_list hk hk0 d'.toList
      simpa using this
    have hg' : w'.heap[b]? = some (.cells (Sort.putCells id 0 (flatK enc k d') cur) e (0, 0)) := by
      subst hw
      unfold sortWorldK putRowK
      rw [Sort.heap_grow_old _ _ (by simpa using hlt.1)]
      simp [Sort.putRow, Sort.mapBlock, Sort.ahead, Array.getElem?_modify, hg, Sort.onCells]
    have hsz : (flatK enc k d').size = xs.length * k := by rw [size_flatK]; have := hp.1; simp at this; rw [this]
    have hle : xs.length * k ≤ cur.size := by rw [hcs]; exact Nat.mul_le_mul_right _ hnc
    refine H.change r0 rfl rfl (.mk6 hh.2.2.1 hh.2.2.2.1 hh.2.2.2.2.1 hh.2.1 (fun j hj => hh.1 j (Nat.lt_of_lt_of_le hj H.base) (fun e => by have := hlt.2 rfl; omega)) hh.2.2.2.2.2) (fun j hj hne => hh.1 j hj (fun e => hne (by rw [e]; rfl)))
      ⟨by rw [flatMap_length hk, hz], .inr ⟨b, cap, _, rfl, Nat.zero_le _, hg', hnc, hcm, by simp [Sort.putCells, hcs], ?_⟩⟩ (fun j hj => ?_) (fun j hj => .inl hj)
    · rw [← hfl2, ← hsz]
      exact take_put _ _ (by omega)
    · obtain rfl : b = j := by injection hj
      exact Nat.lt_of_lt_of_le hlt.1 hh.2.1
end
end Go.Proofs.Ytlhmjhildlnokaa
