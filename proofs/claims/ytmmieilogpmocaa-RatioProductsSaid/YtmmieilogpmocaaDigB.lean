/-
  Numbers by digits of any base, the lowest first; a round of the product on paper. Plain laws; nothing of the program stands here.
-/
import Derived.WalkKit
namespace Go.Proofs.Ytmmieilogpmocaa
set_option linter.unusedVariables false

/-- The number that digits of base B are. -/
def vB (B : Nat) : List Nat → Nat
  | [] => 0
  | d :: l => d + B * vB B l
theorem vB_append (B : Nat) (l m : List Nat) : vB B (l ++ m) = vB B l + B ^ l.length * vB B m := by
  induction l with
  | nil => simp [vB]
  | cons d l ih => simp only [List.cons_append, vB, ih, List.length_cons, Nat.pow_succ]; rw [Nat.mul_add, ← Nat.mul_assoc, Nat.mul_comm (B ^ l.length) B]; omega
theorem vB_split (B : Nat) (l : List Nat) (i : Nat) (h : i < l.length) : vB B l = vB B (l.take i) + B ^ i * (l.getD i 0 + B * vB B (l.drop (i + 1))) := by
  have e : l = l.take i ++ (l.getD i 0 :: l.drop (i + 1)) := by
    rw [List.getD_eq_getElem?_getD, List.getElem?_eq_getElem h]
    simp
  conv => lhs; rw [e]
  rw [vB_append, List.length_take, Nat.min_eq_left (by omega)]
  rfl
theorem vB_set (B : Nat) (l : List Nat) (k v : Nat) (h : k < l.length) : vB B (l.set k v) + B ^ k * l.getD k 0 = vB B l + B ^ k * v := by
  rw [vB_split B l k h, vB_split B (l.set k v) k (by simpa using h)]
  have e1 : (l.set k v).take k = l.take k := by rw [List.take_set_of_le (Nat.le_refl _)]
  have e2 : (l.set k v).getD k 0 = v := by rw [List.getD_eq_getElem?_getD, List.getElem?_set_self h]; rfl
  have e3 : (l.set k v).drop (k + 1) = l.drop (k + 1) := by rw [List.drop_set_of_lt (by omega)]
  rw [e1, e2, e3, Nat.mul_add, Nat.mul_add]
  omega
theorem vB_lt (B : Nat) (hB : 0 < B) {l : List Nat} (h : ∀ d ∈ l, d < B) : vB B l < B ^ l.length := by
  induction l with
  | nil => simp [vB]
  | cons d l ih =>
    have h1 := h d (by simp)
    have h2 := ih fun x hx => h x (by simp [hx])
    simp only [vB, List.length_cons, Nat.pow_succ]
    have : B * (vB B l + 1) ≤ B * B ^ l.length := Nat.mul_le_mul_left _ h2
    rw [Nat.mul_add, Nat.mul_one, Nat.mul_comm B (B ^ l.length)] at this
    omega
theorem vB_take_succ (B : Nat) (l : List Nat) (j : Nat) : vB B (l.take (j + 1)) = vB B (l.take j) + B ^ j * l.getD j 0 := by
  by_cases h : j < l.length
  · rw [List.take_succ_eq_append_getElem h, vB_append, List.length_take, Nat.min_eq_left (by omega), List.getD_eq_getElem?_getD, List.getElem?_eq_getElem h]; simp [vB]
  · rw [List.take_of_length_le (by omega), List.take_of_length_le (by omega), List.getD_eq_getElem?_getD, List.getElem?_eq_none (by omega)]; simp
theorem vB_zeros (B n : Nat) : vB B (List.replicate n 0) = 0 := by
  induction n with
  | zero => rfl
  | succ n ih => simp [List.replicate_succ, vB, ih]
/-- A round of the product on paper: P is what has been summed up, x the digit of the one, y the digit of the other. -/
theorem mul_round (B : Nat) (l b : List Nat) (P x y : Nat) (i j c v c' old : Nat) (hij : i + j < l.length) (hold : l.getD (i + j) 0 = old) (hy : b.getD j 0 = y)
    (hv : vB B l + B ^ (i + j) * c = P + B ^ i * (x * vB B (b.take j))) (h : v + B * c' = old + c + x * y) :
    vB B (l.set (i + j) v) + B ^ (i + (j + 1)) * c' = P + B ^ i * (x * vB B (b.take (j + 1))) := by
  have h1 := vB_set B l (i + j) v hij
  rw [hold] at h1
  rw [vB_take_succ, hy]
  have h2 : B ^ (i + (j + 1)) * c' = B ^ (i + j) * (B * c') := by rw [← Nat.add_assoc, Nat.pow_succ, Nat.mul_assoc]
  have h3 : B ^ (i + j) * v + B ^ (i + j) * (B * c') = B ^ (i + j) * old + B ^ (i + j) * c + B ^ (i + j) * (x * y) := by
    rw [← Nat.mul_add, h, Nat.mul_add, Nat.mul_add]
  have h4 : B ^ i * (x * (vB B (b.take j) + B ^ j * y)) = B ^ i * (x * vB B (b.take j)) + B ^ (i + j) * (x * y) := by
    rw [Nat.mul_add, Nat.mul_add, Nat.pow_add]
    congr 1
    simp only [Nat.mul_assoc, Nat.mul_comm, Nat.mul_left_comm]
  rw [h2, h4]
  omega
/-- A digit of the one is done: what has been summed up. -/
theorem mul_next (B : Nat) (a b : List Nat) (i x : Nat) (hx : a.getD i 0 = x) : vB B (a.take i) * vB B b + B ^ i * (x * vB B b) = vB B (a.take (i + 1)) * vB B b := by
  rw [vB_take_succ, hx, Nat.add_mul, Nat.mul_assoc]
/-- The carry's bound. -/
theorem carry_lt {B x y c old v c' : Nat} (hB : 0 < B) (hx : x < B) (hy : y < B) (hc : c < B) (ho : old < B) (h : v + B * c' = old + c + x * y) : c' < B := by
  have h1 : x * y ≤ (B - 1) * (B - 1) := Nat.mul_le_mul (by omega) (by omega)
  have h2 : (B - 1) * (B - 1) + (B - 1) + (B - 1) + 1 = B * B := by
    obtain ⟨k, rfl⟩ : ∃ k, B = k + 1 := ⟨B - 1, by omega⟩
    simp only [Nat.add_sub_cancel, Nat.add_mul, Nat.mul_add]; omega
  have h3 : B * c' < B * B := by omega
  exact Nat.lt_of_mul_lt_mul_left h3
theorem vB_inj (B : Nat) (hB : 0 < B) : ∀ {l m : List Nat}, (∀ d ∈ l, d < B) → (∀ d ∈ m, d < B) → l.length = m.length → vB B l = vB B m → l = m := by
  intro l
  induction l with
  | nil => intro m _ _ hl _; exact (List.length_eq_zero_iff.1 hl.symm).symm
  | cons d l ih =>
    intro m hl hm hlen hv
    cases m with
    | nil => simp at hlen
    | cons e m =>
      have h1 := hl d (by simp)
      have h2 := hm e (by simp)
      simp only [vB] at hv
      have e1 : d = (d + B * vB B l) % B := by rw [Nat.add_mul_mod_self_left, Nat.mod_eq_of_lt h1]
      have e2 : e = (e + B * vB B m) % B := by rw [Nat.add_mul_mod_self_left, Nat.mod_eq_of_lt h2]
      obtain rfl : d = e := by rw [e1, e2, hv]
      have h3 : B * vB B l = B * vB B m := by omega
      rw [ih (fun x hx => hl x (by simp [hx])) (fun x hx => hm x (by simp [hx])) (by simpa using hlen) (Nat.eq_of_mul_eq_mul_left hB h3)]
theorem vB_digit (B : Nat) (hB : 0 < B) : ∀ (l : List Nat) (q : Nat), (∀ d ∈ l, d < B) → l.getD q 0 = vB B l / B ^ q % B := by
  intro l
  induction l with
  | nil => intro q _; simp [vB]
  | cons d l ih =>
    intro q h
    have h1 := h d (by simp)
    cases q with
    | zero => simp only [List.getD_cons_zero, vB, Nat.pow_zero, Nat.div_one]; rw [Nat.add_mul_mod_self_left, Nat.mod_eq_of_lt h1]
    | succ q =>
      rw [List.getD_cons_succ, ih q fun x hx => h x (by simp [hx]), Nat.pow_succ, Nat.mul_comm (B ^ q) B, ← Nat.div_div_eq_div_mul]
      simp only [vB]
      rw [Nat.add_mul_div_left _ _ hB, Nat.div_eq_of_lt h1, Nat.zero_add]
theorem vB_drop (B : Nat) (l : List Nat) (j : Nat) (h : j < l.length) : vB B (l.drop j) = l.getD j 0 + B * vB B (l.drop (j + 1)) := by
  rw [List.drop_eq_getElem_cons h, List.getD_eq_getElem?_getD, List.getElem?_eq_getElem h]; rfl
/-- A round of a division of digits by q, from above. -/
theorem vB_quot (B q : Nat) (hq : 0 < q) (a l : List Nat) (j rest d x : Nat) (ha : j < a.length) (hl : j < l.length) (hx : a.getD j 0 = x) (hd : d = rest * B + x)
    (hv : vB B (a.drop (j + 1)) = q * vB B (l.drop (j + 1)) + rest) : vB B (a.drop j) = q * vB B ((l.set j (d / q)).drop j) + d % q := by
  have e1 : (l.set j (d / q)).getD j 0 = d / q := by rw [List.getD_eq_getElem?_getD, List.getElem?_set_self hl]; rfl
  have e2 : (l.set j (d / q)).drop (j + 1) = l.drop (j + 1) := by rw [List.drop_set_of_lt (by omega)]
  rw [vB_drop B a j ha, vB_drop B (l.set j (d / q)) j (by simpa using hl), e1, e2, hx, hv]
  have h1 := Nat.div_add_mod d q
  have h2 : q * (d / q + B * vB B (l.drop (j + 1))) = q * (d / q) + B * (q * vB B (l.drop (j + 1))) := by rw [Nat.mul_add, Nat.mul_left_comm]
  rw [h2, Nat.mul_add, Nat.mul_comm B rest]
  omega
/-- The lower part of one list, the upper part of another. -/
def mixL (o q : List Nat) (k : Nat) : List Nat := o.take k ++ q.drop k
theorem mixL_length {o q : List Nat} {k : Nat} (h : o.length = q.length) (hk : k ≤ o.length) : (mixL o q k).length = o.length := by simp [mixL]; omega
theorem mixL_get {o q : List Nat} {j : Nat} (hj : j < o.length) : (mixL o q (j + 1)).getD j 0 = o.getD j 0 := by
  unfold mixL
  rw [List.getD_eq_getElem?_getD, List.getElem?_append_left (by simp; omega), List.getElem?_take, if_pos (by omega), ← List.getD_eq_getElem?_getD]
theorem mixL_set {o q : List Nat} {j v : Nat} (hj : j < o.length) (h : o.length = q.length) : (mixL o q (j + 1)).set j v = mixL o (q.set j v) j := by
  unfold mixL
  apply List.ext_getElem?
  intro p
  by_cases hp : p = j
  · subst hp
    rw [List.getElem?_set_self (by simp; omega), List.getElem?_append_right (by simp; omega)]
    simp only [List.length_take, Nat.min_eq_left (Nat.le_of_lt hj), Nat.sub_self]
    rw [List.getElem?_drop, Nat.add_zero, List.getElem?_set_self (by omega)]
  · rw [List.getElem?_set_ne (fun h => hp h.symm)]
    rcases Nat.lt_or_gt_of_ne hp with h1 | h1
    · rw [List.getElem?_append_left (by simp; omega), List.getElem?_append_left (by simp; omega), List.getElem?_take, List.getElem?_take, if_pos (by omega), if_pos h1]
    · rw [List.getElem?_append_right (by simp; omega), List.getElem?_append_right (by simp; omega)]
      simp only [List.length_take]
      rw [List.getElem?_drop, List.getElem?_drop, Nat.min_eq_left (by omega), Nat.min_eq_left (by omega), List.getElem?_set_ne (by omega)]
      congr 1; omega
/-- A digit of a word's digits is a digit. -/
theorem digit_in_word (B X r n : Nat) (hr : r < n) : X % B ^ n / B ^ r % B = X / B ^ r % B := by
  obtain ⟨k, rfl⟩ : ∃ k, n = r + (k + 1) := ⟨n - r - 1, by omega⟩
  rw [Nat.pow_add, Nat.mod_mul_right_div_self, Nat.mod_mod_of_dvd _ ⟨B ^ k, by rw [Nat.pow_succ, Nat.mul_comm]⟩]
end Go.Proofs.Ytmmieilogpmocaa
