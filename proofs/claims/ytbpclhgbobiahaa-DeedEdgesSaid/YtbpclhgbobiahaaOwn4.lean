/-
  Resources: a slice that is made.
-/
import Derived.Test.YtbpclhgbobiahaaOwn3
import Derived.Laws.MakeOwn
namespace Go.Proofs.Ytbpclhgbobiahaa
set_option linter.unusedVariables false
set_option linter.unusedSimpArgs false
open Go.RowKit

variable {P : Program} {o : Oper} {a : Act} {w w0 : World} {B : Nat} {l : List Res} {Q : Exit → Act → World → Prop}
theorem o_makeSlice {K : Act → World → Prop} {ty e : TypeId} {xl xc : Operand} {n : Nat} {i : TypeInfo} {z : Value} {row : List Value} (ho : o.op = .makeSlice ty xl xc) (hl : a.eval xl = .int .i64 (n : Int)) (hc : a.eval xc = .int .i64 (n : Int))
    (ht : P.underlying ty = some (.slice e)) (hi : P.info? e = some i) (hz : i.zero = some z) (hm : n * i.size ≤ 16777216) (hb : i.bytes * n ≤ 281474976710656) (h63 : n ≤ 9223372036854775807) (H : Own B w0 w l) (hrow : (madeCells z.cells (n * i.size)).toList = row)
    (hk : ∀ w' b, Ext w w' → Own B w0 w' (.cells b row :: l) → K (a.put o.dst (.slice (some ⟨b, 0, none⟩) n n)) w') : o.wp P a w K Q := by
  unfold Oper.wp execOp
  subst hrow
  have := run_makeSlice (P := P) (w := w) ty e i z ht hi hz .i64 .i64 (n : Int) (n : Int) (by omega) (Int.le_refl _) (by simpa using hm) (by rw [← Int.natCast_mul]; omega) (by omega)
  simp only [Int.toNat_natCast] at this
  simp only [ho, hl, hc, Sem.run_bind, this]
  exact hk _ _ (below_alloc1 w _) (H.alloc _ e)
theorem o_make {K : Act → World → Prop} {ty e : TypeId} {xl xc : Operand} {n : Nat} {z : Value} {row : List Value} (hi : (P.info? e).map (fun i => (i.zero, i.size, i.bytes)) = some (some z, 1, 8)) (ho : o.op = .makeSlice ty xl xc) (hl : a.eval xl = .int .i64 (n : Int)) (hc : a.eval xc = .int .i64 (n : Int))
    (ht : P.underlying ty = some (.slice e)) (hm : n ≤ 100000) (H : Own B w0 w l) (hrow : (madeCells z.cells n).toList = row)
    (hk : ∀ w' b, Ext w w' → Own B w0 w' (.cells b row :: l) → K (a.put o.dst (.slice (some ⟨b, 0, none⟩) n n)) w') : o.wp P a w K Q := by
  obtain ⟨i, h1, h2⟩ := Option.map_eq_some_iff.1 hi
  simp only [Prod.mk.injEq] at h2
  exact o_makeSlice ho hl hc ht h1 h2.1 (by rw [h2.2.1]; omega) (by rw [h2.2.2]; omega) (by omega) H (by rw [h2.2.1, Nat.mul_one]; exact hrow) hk
theorem Own.toRd {B : Nat} {w0 w : World} {l : List Res} {b : Nat} {row : List Value} (H : Own B w0 w (.cells b row :: l)) : Own B w0 w (.rd (some ⟨b, 0, none⟩) b 0 row :: l) := by
  refine H.tail.add _ ⟨fun _ => rfl, fun j v hj => ?_⟩ (fun k hk => ⟨?_, by intro h; exact absurd h (by simp [Res.ro])⟩) (fun r' hr' => ?_)
  · simpa using H.range m0 (at_cells (b := b) (o := j) hj) 0 _ rfl
  · exact (H.lt _ m0 k hk.1).1
  · have hp := H.apart
    rw [List.pairwise_cons] at hp
    rcases hp.1 r' hr' with h | h
    · exact absurd h.1 (by simp [Res.ro])
    · exact .inr fun k hk => h k hk.1
end Go.Proofs.Ytbpclhgbobiahaa
