/-
  Resources: a store into a slice of the call's own. Nothing of the program stands here.
-/
import Derived.Test.YtlhmjhildlnokaaOwn7
namespace Go.Proofs.Ytlhmjhildlnokaa
set_option linter.unusedVariables false
open Go.RowKit
variable {P : Program} {B : Nat} {w0 w w' : World} {l l' : List Res} {o : Oper} {a : Act} {Q : Exit → Act → World → Prop} {ty e : TypeId} {x y : Operand} {b off size n cap : Nat} {xs : List Value}
theorem setL_take (k : Nat) : ∀ (vs row : List Value) (off : Nat), (setL row off vs).take k = setL (row.take k) off vs
  | [], row, off => rfl
  | v :: r, row, off => by rw [setL, setL_take k r, List.take_set, setL]
theorem run_storeG {vs : List Value} {v : Value} (hv : v.cells.toList = vs) (H : Own B w0 w l) (hrep : Rep (.grow e size (.slice (some ⟨b, 0, none⟩) n cap) n xs) (.grow e size (.slice (some ⟨b, 0, none⟩) n cap) n (setL xs off vs)) l l') (hs : (sizeOf ty).run P w = .ok vs.length w) (hfit : off + vs.length ≤ xs.length) (h1 : vs.all (·.oneCell') = true) :
    ∃ w', (Instr.storeAt ty (.pointer (some ⟨b, off, none⟩)) v).run P w = .ok () w' ∧ Own B w0 w' l' := by
  have h := H.holds _ hrep.mem
  have hlt := H.lt _ hrep.mem b rfl
  have hxs := h.1
  rcases h.2 with ⟨h0, _⟩ | ⟨g, cap', cur, hv', hbg, hg, hnc, hcm, hcs, htake⟩
  · cases h0
  · injection hv' with e1 e2 e3
    injection e1 with e1
    injection e1 with e1
    subst e1 e3
    have hle : n * size ≤ cur.toList.length := by rw [Array.length_toList, hcs]; exact Nat.mul_le_mul_right _ hnc
    have hfit2 : off + vs.length ≤ cur.toList.length := by omega
    have h2 := run_storeCells_at P b off e vs 0 cur w hg (by simpa using hfit2) (fun u hu => List.all_eq_true.1 h1 u hu)
    refine ⟨w.setRow b (setL cur.toList off vs).toArray, ?_, ?_⟩
    · rw [setL_eq vs cur.toList off hfit2]
      have hl : v.cells.size = vs.length := by rw [← hv]; simp
      simp only [Nat.add_zero] at h2
      simp only [Instr.storeAt, Instr.sureAddr, storeVar, Sem.run_bind, Sem.run_pure, Result.andThen_ok, hs, hl, ne_eq, not_true_eq_false, if_false, hv]
      simpa using h2
    · have hsz : (w.setRow b (setL cur.toList off vs).toArray).heap.size = w.heap.size := by simp [World.setRow]
      have hk : ∀ k, k ≠ b → (w.setRow b (setL cur.toList off vs).toArray).heap[k]? = w.heap[k]? := fun k hk => by
        simp only [World.setRow, Array.getElem?_modify]
        rw [if_neg (fun e => hk e.symm)]
      have hlen : (setL cur.toList off vs).length = cur.size := by rw [setL_length vs _ off hfit2]; simp
      refine H.change hrep rfl rfl (.mk6 rfl rfl rfl (Nat.le_of_eq hsz.symm) (fun k hk' => hk k (by have := hlt.2 rfl; omega)) (Nat.le_refl _)) (fun k _ hne => hk k (fun e => hne (by rw [e]; rfl)))
        ⟨by rw [setL_length vs xs off hfit]; exact hxs, .inr ⟨b, cap, _, rfl, hbg, setRow_heap w b _ _ e (0, 0) hg, hnc, hcm, by simp [hlen, hcs], ?_⟩⟩ (fun k hk' => ?_) (fun k hk' => .inl hk')
      · rw [← htake]
        exact setL_take _ _ _ _
      · obtain rfl : b = k := by injection hk'
        rw [hsz]; exact hlt.1
theorem o_storeG {K : Act → World → Prop} {vs : List Value} (ho : o.op = .store ty x y) (hx : a.eval x = .pointer (some ⟨b, off, none⟩)) (H : Own B w0 w l) (hv : (a.eval y).cells.toList = vs)
    (hrep : Rep (.grow e size (.slice (some ⟨b, 0, none⟩) n cap) n xs) (.grow e size (.slice (some ⟨b, 0, none⟩) n cap) n (setL xs off vs)) l l') (hs : ∀ w, (sizeOf ty).run P w = .ok vs.length w) (hfit : off + vs.length ≤ xs.length) (h1 : vs.all (·.oneCell') = true)
    (hk : ∀ w', Own B w0 w' l' → K (a.put o.dst undef) w') : o.wp P a w K Q := by
  obtain ⟨w', h2, h3⟩ := run_storeG (P := P) hv H hrep (hs w) hfit h1
  unfold Oper.wp execOp
  simp only [ho, hx, Sem.run_bind, h2]
  exact hk _ h3
end Go.Proofs.Ytlhmjhildlnokaa
