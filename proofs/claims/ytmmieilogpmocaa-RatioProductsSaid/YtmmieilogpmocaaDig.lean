/-
  Numbers by digits of base 65536, the lowest first: plain laws. Nothing of the program stands here.
-/
import Derived.Test.YtmmieilogpmocaaOwn3
namespace Go.Proofs.Ytmmieilogpmocaa
set_option linter.unusedVariables false
open Go.RowKit

def val : List Nat → Nat
  | [] => 0
  | d :: l => d + 65536 * val l
def Dg (l : List Nat) : Prop := ∀ d ∈ l, d < 65536
/-- The digits as cells. -/
def dl (l : List Nat) : List Value := l.map fun (d : Nat) => Value.int .i64 (d : Int)
theorem dl_length (l : List Nat) : (dl l).length = l.length := by simp [dl]
theorem dl_append (l m : List Nat) : dl (l ++ m) = dl l ++ dl m := by simp [dl]
theorem dl_get {l : List Nat} {j : Nat} (h : j < l.length) : (dl l)[j]? = some (Value.int .i64 ((l.getD j 0 : Nat) : Int)) := by
  simp [dl, h]
theorem val_append (l m : List Nat) : val (l ++ m) = val l + 65536 ^ l.length * val m := by
  induction l with
  | nil => simp [val]
  | cons d l ih => simp only [List.cons_append, val, ih, List.length_cons, Nat.pow_succ]; rw [Nat.mul_add, ← Nat.mul_assoc, Nat.mul_comm (65536 ^ l.length) 65536]; omega
theorem val_snoc (l : List Nat) (d : Nat) : val (l ++ [d]) = val l + 65536 ^ l.length * d := by rw [val_append]; simp [val]
theorem val_lt {l : List Nat} (h : Dg l) : val l < 65536 ^ l.length := by
  induction l with
  | nil => simp [val]
  | cons d l ih =>
    have h1 := h d (by simp)
    have h2 := ih fun x hx => h x (by simp [hx])
    simp only [val, List.length_cons, Nat.pow_succ]
    omega
theorem Dg.nil : Dg [] := fun _ h => by cases h
theorem Dg.snoc {l : List Nat} (h : Dg l) {d : Nat} (hd : d < 65536) : Dg (l ++ [d]) := fun x hx => by
  rcases List.mem_append.1 hx with h' | h'
  · exact h x h'
  · obtain rfl := List.mem_singleton.1 h'; exact hd
theorem Dg.get {l : List Nat} (h : Dg l) (j : Nat) : l.getD j 0 < 65536 := by
  by_cases hj : j < l.length
  · rw [List.getD_eq_getElem?_getD, List.getElem?_eq_getElem hj]; exact h _ (List.getElem_mem hj)
  · rw [List.getD_eq_getElem?_getD, List.getElem?_eq_none (by omega)]; simp
theorem take_succ_getD (l : List Nat) (j : Nat) (h : j < l.length) : l.take (j + 1) = l.take j ++ [l.getD j 0] := by
  rw [List.take_succ_eq_append_getElem h, List.getD_eq_getElem?_getD, List.getElem?_eq_getElem h]; rfl
theorem val_take_succ (l : List Nat) (j : Nat) : val (l.take (j + 1)) = val (l.take j) + 65536 ^ j * l.getD j 0 := by
  by_cases h : j < l.length
  · rw [take_succ_getD l j h, val_snoc, List.length_take, Nat.min_eq_left (by omega)]
  · rw [List.take_of_length_le (by omega), List.take_of_length_le (by omega), List.getD_eq_getElem?_getD, List.getElem?_eq_none (by omega)]; simp
theorem val_take_all (l : List Nat) (j : Nat) (h : l.length ≤ j) : val (l.take j) = val l := by rw [List.take_of_length_le h]
/-- A round of the sum. -/
theorem plus_step (a b l : List Nat) (j c d : Nat) (hl : l.length = j) (hv : val l + 65536 ^ j * c = val (a.take j) + val (b.take j)) (hd : d = c + a.getD j 0 + b.getD j 0) :
    val (l ++ [d % 65536]) + 65536 ^ (j + 1) * (d / 65536) = val (a.take (j + 1)) + val (b.take (j + 1)) := by
  rw [val_snoc, val_take_succ, val_take_succ, hl, Nat.pow_succ]
  have h1 : 65536 ^ j * 65536 * (d / 65536) + 65536 ^ j * (d % 65536) = 65536 ^ j * d := by
    rw [Nat.mul_assoc, ← Nat.mul_add, Nat.div_add_mod]
  rw [hd, Nat.mul_add, Nat.mul_add] at h1
  rw [hd]
  omega
/-- A digit, under a name. -/
theorem dig_at {l : List Nat} {j : Nat} (h : j < l.length) (g : Dg l) : ∃ x : Nat, Hid (l.getD j 0 = x) ∧ x < 65536 ∧ ∀ A b off, (Res.rd A b off (dl l)).at b (off + j) [.int .i64 (x : Int)] :=
  ⟨_, Lib.hid rfl, g.get j, fun A b off => at_rd (dl_get h)⟩
theorem getD_past {l : List Nat} {j : Nat} (h : ¬ j < l.length) : l.getD j 0 = 0 := by
  rw [List.getD_eq_getElem?_getD, List.getElem?_eq_none (by omega)]; rfl
/-- The digits of |z|, none above the highest that isn't 0. -/
def CnI (l : List Nat) (z : Int) : Prop := Dg l ∧ (∀ h : l ≠ [], l.getLast h ≠ 0) ∧ val l = z.natAbs
theorem val_pos {l : List Nat} (h : l ≠ []) (ht : l.getLast h ≠ 0) : 65536 ^ (l.length - 1) ≤ val l := by
  induction l with
  | nil => exact absurd rfl h
  | cons d l ih =>
    by_cases hl : l = []
    · subst hl
      simp at ht
      simp [val]; omega
    · have h1 := ih hl (by rwa [List.getLast_cons hl] at ht)
      have h2 : (d :: l).length - 1 = (l.length - 1) + 1 := by
        have : 0 < l.length := List.length_pos_iff.2 hl
        simp; omega
      rw [h2, Nat.pow_succ]
      simp only [val]
      omega
theorem CnI.len_le {l : List Nat} {z : Int} (h : CnI l z) {K : Nat} (hz : z.natAbs < 65536 ^ K) : l.length ≤ K := by
  by_cases hl : l = []
  · subst hl; simp
  · have h1 := val_pos hl (h.2.1 hl)
    rw [h.2.2] at h1
    have h2 : 65536 ^ (l.length - 1) < 65536 ^ K := Nat.lt_of_le_of_lt h1 hz
    have h3 := (Nat.pow_lt_pow_iff_right (by omega : 1 < 65536)).1 h2
    omega
theorem CnI.lt {l : List Nat} {z : Int} (h : CnI l z) : z.natAbs < 65536 ^ l.length := by rw [← h.2.2]; exact val_lt h.1
theorem val_inj : ∀ {l m : List Nat}, Dg l → Dg m → (∀ h : l ≠ [], l.getLast h ≠ 0) → (∀ h : m ≠ [], m.getLast h ≠ 0) → val l = val m → l = m := by
  intro l
  induction l with
  | nil =>
    intro m _ _ _ hm hv
    by_cases h : m = []
    · exact h.symm
    · have h1 := val_pos h (hm h)
      have h2 : 0 < 65536 ^ (m.length - 1) := Nat.pow_pos (by omega)
      simp only [val] at hv
      omega
  | cons d l ih =>
    intro m hl hm tl tm hv
    cases m with
    | nil =>
      have h1 := val_pos (by simp) (tl (by simp))
      have h2 : 0 < 65536 ^ ((d :: l).length - 1) := Nat.pow_pos (by omega)
      simp only [val] at hv h1
      omega
    | cons e m =>
      have h1 := hl d (by simp)
      have h2 := hm e (by simp)
      simp only [val] at hv
      obtain rfl : d = e := by omega
      have h3 : val l = val m := by omega
      rw [ih (fun x hx => hl x (by simp [hx])) (fun x hx => hm x (by simp [hx])) (fun h => by have := tl (by simp); rwa [List.getLast_cons h] at this) (fun h => by have := tm (by simp); rwa [List.getLast_cons h] at this) h3]
theorem CnI.inj {l m : List Nat} {z : Int} (h : CnI l z) (k : CnI m z) : l = m := val_inj h.1 k.1 h.2.1 k.2.1 (h.2.2.trans k.2.2.symm)
theorem CnI.zero : CnI [] 0 := ⟨Dg.nil, fun h => absurd rfl h, rfl⟩
theorem CnI.nil_iff {l : List Nat} {z : Int} (h : CnI l z) : l = [] ↔ z = 0 := by
  constructor
  · rintro rfl
    have := h.2.2
    simp only [val] at this
    omega
  · rintro rfl
    exact h.inj CnI.zero
theorem CnI.neg {l : List Nat} {z : Int} (h : CnI l z) : CnI l (-z) := ⟨h.1, h.2.1, by rw [h.2.2]; omega⟩
theorem Dg.take {l : List Nat} (h : Dg l) (j : Nat) : Dg (l.take j) := fun x hx => h x (List.mem_of_mem_take hx)
theorem dl_take (l : List Nat) (j : Nat) : dl (l.take j) = (dl l).take j := by simp [dl, List.map_take]
/-- A nought on top falls. -/
theorem val_drop_top {l : List Nat} {j : Nat} (h : l.getD j 0 = 0) : val (l.take (j + 1)) = val (l.take j) := by rw [val_take_succ, h]; simp
theorem top_take {l : List Nat} {j : Nat} (hj : j < l.length) (h : l.getD j 0 ≠ 0) : ∀ hn : l.take (j + 1) ≠ [], (l.take (j + 1)).getLast hn ≠ 0 := by
  intro hn
  have : l.take (j + 1) = l.take j ++ [l.getD j 0] := take_succ_getD l j hj
  simp only [this]
  simpa using h
/-- A round of the difference. -/
theorem minus_step (a b l : List Nat) (j c d e x y : Nat) (hl : l.length = j) (hv : val l + val (b.take j) = val (a.take j) + 65536 ^ j * c) (hx : a.getD j 0 = x) (hy : b.getD j 0 = y) (hd : d + y + c = x + 65536 * e) :
    val (l ++ [d]) + val (b.take (j + 1)) = val (a.take (j + 1)) + 65536 ^ (j + 1) * e := by
  rw [val_snoc, val_take_succ, val_take_succ, hl, hx, hy, Nat.pow_succ, Nat.mul_assoc]
  have h2 : 65536 ^ j * d + 65536 ^ j * y + 65536 ^ j * c = 65536 ^ j * x + 65536 ^ j * (65536 * e) := by
    rw [← Nat.mul_add, ← Nat.mul_add, ← Nat.mul_add, hd]
  omega
theorem val_split (l : List Nat) (i : Nat) : val l = val (l.take i) + 65536 ^ i * (l.getD i 0 + 65536 * val (l.drop (i + 1))) := by
  by_cases h : i < l.length
  · have e : l = l.take i ++ (l.getD i 0 :: l.drop (i + 1)) := by
      rw [List.getD_eq_getElem?_getD, List.getElem?_eq_getElem h]
      simp
    rw [e, val_append, ← e, List.length_take, Nat.min_eq_left (by omega)]
    rfl
  · rw [List.take_of_length_le (by omega), getD_past h, List.drop_of_length_le (by omega)]
    simp [val]
/-- The first unlike digit from above decides. -/
theorem val_lt_of {a b : List Nat} {i x y : Nat} (ga : Dg a) (hd : a.drop (i + 1) = b.drop (i + 1)) (hx : a.getD i 0 = x) (hy : b.getD i 0 = y) (h : x < y) : val a < val b := by
  rw [val_split a i, val_split b i, hd, hx, hy]
  have h1 : val (a.take i) < 65536 ^ i := by
    refine Nat.lt_of_lt_of_le (val_lt (ga.take i)) (Nat.pow_le_pow_right (by omega) ?_)
    rw [List.length_take]; omega
  have h2 : 65536 ^ i * (x + 65536 * val (b.drop (i + 1))) + 65536 ^ i ≤ 65536 ^ i * (y + 65536 * val (b.drop (i + 1))) := by
    rw [← Nat.mul_succ]; exact Nat.mul_le_mul_left _ (by omega)
  omega
theorem drop_eq_succ {a b : List Nat} {i : Nat} (hd : a.drop (i + 1) = b.drop (i + 1)) (ha : i < a.length) (hb : i < b.length) (h : a.getD i 0 = b.getD i 0) : a.drop i = b.drop i := by
  rw [List.getD_eq_getElem?_getD, List.getD_eq_getElem?_getD, List.getElem?_eq_getElem ha, List.getElem?_eq_getElem hb] at h
  rw [List.drop_eq_getElem_cons ha, List.drop_eq_getElem_cons hb, hd]
  simp only [Option.getD_some] at h
  rw [h]
/-- The order of two numbers. -/
def cmpN (m n : Nat) : Int := if m < n then -1 else if n < m then 1 else 0
theorem len_val {l m : List Nat} {x y : Int} (hl : CnI l x) (hm : CnI m y) (h : l.length < m.length) : val l < val m := by
  have h1 := val_lt hl.1
  have hne : m ≠ [] := by intro e; subst e; simp at h
  have h2 := val_pos hne (hm.2.1 hne)
  exact Nat.lt_of_lt_of_le h1 (Nat.le_trans (Nat.pow_le_pow_right (by omega) (by omega)) h2)
end Go.Proofs.Ytmmieilogpmocaa
