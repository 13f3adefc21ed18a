/-
  The walks of the document's layer 3: halves.
-/
import Derived.Test.YtmmieilogpmocaaRef03b
import Derived.Test.YtmmieilogpmocaaOwn4
namespace Go.Proofs.Ytmmieilogpmocaa
set_option linter.unusedVariables false
set_option linter.unusedSimpArgs false
open Go.RowKit

theorem made_dl (n : Nat) : (madeCells (Value.int .i64 0).cells n).toList = dl (List.replicate n 0) := by
  apply List.ext_getElem?
  intro i
  by_cases h : i < n
  · simp [madeCells, dl, Value.cells, h, Nat.mod_one]
  · simp [madeCells, dl, Value.cells, h]
theorem dl_set (l : List Nat) (k v : Nat) : (dl l).set k (.int .i64 (v : Int)) = dl (l.set k v) := by simp [dl, List.map_set]
theorem Dg.set {l : List Nat} (h : Dg l) (k v : Nat) (hv : v < 65536) : Dg (l.set k v) := fun d hd => by
  rcases List.mem_or_eq_of_mem_set hd with h' | h'
  · exact h d h'
  · rw [h']; exact hv
theorem Dg.zeros (n : Nat) : Dg (List.replicate n 0) := fun d hd => by rw [(List.mem_replicate.1 hd).2]; omega
theorem val_drop (l : List Nat) (j : Nat) (h : j < l.length) : val (l.drop j) = l.getD j 0 + 65536 * val (l.drop (j + 1)) := by
  rw [List.drop_eq_getElem_cons h, List.getD_eq_getElem?_getD, List.getElem?_eq_getElem h]; rfl
theorem drop_set_succ (l : List Nat) (j v : Nat) : (l.set j v).drop (j + 1) = l.drop (j + 1) := by rw [List.drop_set_of_lt (by omega)]
theorem set_getD (l : List Nat) (j v : Nat) (h : j < l.length) : (l.set j v).getD j 0 = v := by
  rw [List.getD_eq_getElem?_getD, List.getElem?_set_self h]; rfl
/-- A round of a division of digits by q, from above. -/
theorem quot_round (q : Nat) (hq : 0 < q) (a l : List Nat) (j rest d x : Nat) (ha : j < a.length) (hl : j < l.length) (hx : a.getD j 0 = x) (hd : d = rest * 65536 + x)
    (hv : val (a.drop (j + 1)) = q * val (l.drop (j + 1)) + rest) : val (a.drop j) = q * val ((l.set j (d / q)).drop j) + d % q := by
  rw [val_drop a j ha, val_drop (l.set j (d / q)) j (by simpa using hl), set_getD l j _ hl, drop_set_succ, hx, hv]
  have h1 := Nat.div_add_mod d q
  have h2 : q * (d / q + 65536 * val (l.drop (j + 1))) = q * (d / q) + 65536 * (q * val (l.drop (j + 1))) := by rw [Nat.mul_add, Nat.mul_left_comm]
  rw [h2, Nat.mul_add]
  omega
/-- What a function answers whose answer are the digits of n, none above the highest that isn't 0. -/
def RetC (F : Nat → Prop) (w : World) (n : Nat) (e : Ending) (w' : World) : Prop :=
  ∃ A c l, e = .returned (.slice A l.length c) ∧ Below w.heap.size w w' ∧ Sl F w' A (dl l) ∧ CnI l n ∧ l.length ≤ c ∧ c ≤ maxLen
theorem Own.notF {B : Nat} {w0 w : World} {l : List Res} {F : Nat → Prop} {b : Nat} {row : List Value} (H : Own B w0 w l) (hm : Res.cells b row ∈ l) (hF : ∀ k, F k → k < B) : ¬ F b := fun h => by
  have h1 := (H.lt _ hm b rfl).2 rfl
  have h2 := hF _ h
  omega
theorem field_num1 (x y : Value) (w : World) : (Instr.field 71 (.agg #[x, y]) 1).run Try.prog w = .ok y w := by kernel_rfl
theorem field_num0 (x y : Value) (w : World) : (Instr.field 71 (.agg #[x, y]) 0).run Try.prog w = .ok x w := by kernel_rfl
def HalfRel (w : World) (A1 : Option Addr) (b1 o1 b2 : Nat) (a : List Nat) (k : Nat) (rest i : Value) (wr : World) : Prop :=
  ∃ (r : Nat) (l : List Nat), k ≤ a.length ∧ i = .int .i64 ((k : Int) - 1) ∧ rest = .int .i64 (r : Int) ∧ r ≤ 1 ∧ l.length = a.length ∧ Dg l ∧ val (a.drop k) = 2 * val (l.drop k) + r ∧
    Own w.heap.size w wr [.cells b2 (dl l), .rd A1 b1 o1 (dl a)]
end Go.Proofs.Ytmmieilogpmocaa
