/-
  Points, turns, lines: the program's way of asking and the document's are one (whole numbers alone). Nothing of the program stands here.
-/
import Derived.Test.YtlhmjhildlnokaaGeo
namespace Go.Proofs.Ytlhmjhildlnokaa
set_option linter.unusedVariables false
set_option linter.unusedSimpArgs false

theorem turn0 (a b c : Pt) : turnZ a b c = 0 ↔ crossZ a b c = 0 := sg_eq0 _
/-- p on one line with a and b, a and b apart: p is one of them, or parts them, or stands outside: then the vectors to both are multiples of each other. -/
theorem line_cases (p a b : Pt) (h : crossZ a b p = 0) (hab : a ≠ b) :
    p = a ∨ p = b ∨
    (∃ m n : Int, 0 < m ∧ 0 < n ∧ m * (a.x - p.x) = -(n * (b.x - p.x)) ∧ m * (a.y - p.y) = -(n * (b.y - p.y))) ∨
    (∃ m n : Int, 0 < m ∧ 0 < n ∧ m * (a.x - p.x) = n * (b.x - p.x) ∧ m * (a.y - p.y) = n * (b.y - p.y)) := by
  obtain ⟨px, py⟩ := p
  obtain ⟨ax, ay⟩ := a
  obtain ⟨bx, b_y⟩ := b
  have hk : (ax - px) * (b_y - py) = (bx - px) * (ay - py) := by
    unfold crossZ at h
    dsimp only at h
    grind
  have hne : ax ≠ bx ∨ ay ≠ b_y := by
    by_cases h1 : ax = bx
    · refine .inr fun h2 => hab ?_
      rw [h1, h2]
    · exact .inl h1
  clear h hab
  simp only [Pt.mk.injEq]
  obtain ⟨u, hu⟩ : ∃ u, ax - px = u := ⟨_, rfl⟩
  obtain ⟨v, hv⟩ : ∃ v, ay - py = v := ⟨_, rfl⟩
  obtain ⟨s, hs⟩ : ∃ s, bx - px = s := ⟨_, rfl⟩
  obtain ⟨t, ht⟩ : ∃ t, b_y - py = t := ⟨_, rfl⟩
  rw [hu, hv, hs, ht] at hk ⊢
  have hne' : u ≠ s ∨ v ≠ t := by omega
  by_cases h0 : u = 0 ∧ v = 0
  · exact .inl ⟨by omega, by omega⟩
  by_cases h1 : s = 0 ∧ t = 0
  · exact .inr (.inl ⟨by omega, by omega⟩)
  refine .inr (.inr ?_)
  clear hne hu hv hs ht hne'
  -- u t = s v
  rcases Int.lt_trichotomy u 0 with hu | hu | hu
  · rcases Int.lt_trichotomy s 0 with hs | hs | hs
    · exact .inr ⟨-s, -u, by omega, by omega, by grind, by grind⟩
    · exfalso
      subst hs
      rw [Int.zero_mul] at hk
      rcases Int.mul_eq_zero.1 hk with h | h <;> omega
    · exact .inl ⟨s, -u, by omega, by omega, by grind, by grind⟩
  · subst hu
    rw [Int.zero_mul] at hk
    have hv : v ≠ 0 := fun h => h0 ⟨rfl, h⟩
    obtain rfl : s = 0 := by
      rcases Int.mul_eq_zero.1 hk.symm with h | h
      · exact h
      · exact absurd h hv
    have ht : t ≠ 0 := fun h => h1 ⟨rfl, h⟩
    rcases Int.lt_trichotomy v 0 with h2 | h2 | h2
    · rcases Int.lt_trichotomy t 0 with h3 | h3 | h3
      · exact .inr ⟨-t, -v, by omega, by omega, by simp, by grind⟩
      · exact absurd h3 ht
      · exact .inl ⟨t, -v, by omega, by omega, by simp, by grind⟩
    · exact absurd h2 hv
    · rcases Int.lt_trichotomy t 0 with h3 | h3 | h3
      · exact .inl ⟨-t, v, by omega, by omega, by simp, by grind⟩
      · exact absurd h3 ht
      · exact .inr ⟨t, v, by omega, by omega, by simp, by grind⟩
  · rcases Int.lt_trichotomy s 0 with hs | hs | hs
    · exact .inl ⟨-s, u, by omega, by omega, by grind, by grind⟩
    · exfalso
      subst hs
      rw [Int.zero_mul] at hk
      rcases Int.mul_eq_zero.1 hk with h | h <;> omega
    · exact .inr ⟨s, u, by omega, by omega, by grind, by grind⟩
/-- Two positive multiples of one another: the same sign; with a minus: the other one. -/
theorem pos_same {m n x y : Int} (hm : 0 < m) (hn : 0 < n) (h : m * x = n * y) : (x < 0 ↔ y < 0) ∧ (0 < x ↔ 0 < y) ∧ (x = 0 ↔ y = 0) := by
  have h1 := sg_scale hm hn h
  rcases sg_cases x with ⟨h2, k2⟩ | ⟨h2, k2⟩ | ⟨h2, k2⟩ <;> rcases sg_cases y with ⟨h3, k3⟩ | ⟨h3, k3⟩ | ⟨h3, k3⟩ <;> rw [k2, k3] at h1 <;> omega
theorem pos_other {m n x y : Int} (hm : 0 < m) (hn : 0 < n) (h : m * x = -(n * y)) : (x < 0 ↔ 0 < y) ∧ (0 < x ↔ y < 0) ∧ (x = 0 ↔ y = 0) := by
  have h1 := pos_same hm hn (x := x) (y := -y) (by rw [Int.mul_neg]; exact h)
  omega
theorem less_iff (a b : Pt) : lessB a b = true ↔ (a.x < b.x ∨ a.x = b.x ∧ a.y < b.y) := decide_eq_true_iff (p := LessP a b)
/-- Being between, as the program asks it: the vectors point apart. -/
theorem onL_iff (p a b : Pt) (hab : a ≠ b) : onL p a b = true ↔ crossZ a b p = 0 ∧ p ≠ a ∧ p ≠ b ∧
    ∃ m n : Int, 0 < m ∧ 0 < n ∧ m * (a.x - p.x) = -(n * (b.x - p.x)) ∧ m * (a.y - p.y) = -(n * (b.y - p.y)) := by
  unfold onL betwB
  simp only [Bool.and_eq_true, decide_eq_true_eq, Bool.or_eq_true, less_iff, turn0]
  constructor
  · rintro ⟨h0, h⟩
    have hpa : p ≠ a := by rintro rfl; omega
    have hpb : p ≠ b := by rintro rfl; omega
    refine ⟨h0, hpa, hpb, ?_⟩
    rcases line_cases p a b h0 hab with h1 | h1 | h1 | ⟨m, n, hm, hn, h1, h2⟩
    · exact absurd h1 hpa
    · exact absurd h1 hpb
    · exact h1
    · exfalso
      have e1 := pos_same hm hn h1
      have e2 := pos_same hm hn h2
      omega
  · rintro ⟨h0, hpa, hpb, m, n, hm, hn, h1, h2⟩
    refine ⟨h0, ?_⟩
    have e1 := pos_other hm hn h1
    have e2 := pos_other hm hn h2
    have : p.x ≠ a.x ∨ p.y ≠ a.y := by
      by_cases h : p.x = a.x
      · refine .inr fun h' => hpa ?_
        cases p; cases a; simp at h h' ⊢; exact ⟨h, h'⟩
      · exact .inl h
    omega
theorem pt_ne {p a : Pt} (h : p ≠ a) : p.x ≠ a.x ∨ p.y ≠ a.y := by
  by_cases h1 : p.x = a.x
  · refine .inr fun h' => h ?_
    cases p; cases a; simp at h1 h' ⊢; exact ⟨h1, h'⟩
  · exact .inl h1
theorem onR_iff (p a b : Pt) (hab : a ≠ b) : onR p a b = true ↔ crossZ a b p = 0 ∧ p ≠ a ∧ p ≠ b ∧
    ∃ m n : Int, 0 < m ∧ 0 < n ∧ m * (a.x - p.x) = -(n * (b.x - p.x)) ∧ m * (a.y - p.y) = -(n * (b.y - p.y)) := by
  unfold onR withinB WithinP
  simp only [Bool.and_eq_true, decide_eq_true_eq, Bool.not_eq_true', decide_eq_false_iff_not, turn0]
  constructor
  · rintro ⟨⟨h0, hx, hy⟩, hpa, hpb⟩
    refine ⟨h0, hpa, hpb, ?_⟩
    rcases line_cases p a b h0 hab with h1 | h1 | h1 | ⟨m, n, hm, hn, h1, h2⟩
    · exact absurd h1 hpa
    · exact absurd h1 hpb
    · exact h1
    · exfalso
      have e1 := pos_same hm hn h1
      have e2 := pos_same hm hn h2
      have := pt_ne hpa
      have := pt_ne hpb
      omega
  · rintro ⟨h0, hpa, hpb, m, n, hm, hn, h1, h2⟩
    have e1 := pos_other hm hn h1
    have e2 := pos_other hm hn h2
    refine ⟨⟨h0, by omega, by omega⟩, hpa, hpb⟩
/-- What is on a line is the document's. -/
theorem onL_onR (p a b : Pt) : onL p a b = onR p a b := by
  by_cases hab : a = b
  · subst hab
    have h1 : onL p a a = false := by
      rw [Bool.eq_false_iff]; intro h
      unfold onL betwB at h
      simp only [Bool.and_eq_true, decide_eq_true_eq, Bool.or_eq_true, less_iff, turn0] at h
      omega
    have h2 : onR p a a = false := by
      rw [Bool.eq_false_iff]; intro h
      unfold onR withinB WithinP at h
      simp only [Bool.and_eq_true, decide_eq_true_eq, Bool.not_eq_true', decide_eq_false_iff_not, turn0] at h
      have := pt_ne h.2.1
      omega
    rw [h1, h2]
  · rw [Bool.eq_iff_iff, onL_iff p a b hab, onR_iff p a b hab]

theorem cross_aba (a b : Pt) : crossZ a b a = 0 := by unfold crossZ; grind
theorem cross_abb (a b : Pt) : crossZ a b b = 0 := by unfold crossZ; grind
theorem cross_swap (a b c : Pt) : crossZ a c b = - crossZ a b c := by unfold crossZ; grind
theorem cross_rot (a b c : Pt) : crossZ b c a = crossZ a b c := by unfold crossZ; grind
theorem cross_diff (a b c d : Pt) : crossZ c d b = crossZ c d a + crossZ a b c - crossZ a b d := by unfold crossZ; grind
theorem dist (m u v x y : Int) : m * (u * y - v * x) = u * (m * y) - v * (m * x) := by grind
theorem lin {a b p c d : Pt} {m n : Int} (h0 : crossZ a b p = 0) (hx : m * (c.x - p.x) = n * (d.x - p.x)) (hy : m * (c.y - p.y) = n * (d.y - p.y)) : m * crossZ a b c = n * crossZ a b d := by
  have e1 : crossZ a b c = crossZ a b p + ((b.x - a.x) * (c.y - p.y) - (b.y - a.y) * (c.x - p.x)) := by unfold crossZ; grind
  have e2 : crossZ a b d = crossZ a b p + ((b.x - a.x) * (d.y - p.y) - (b.y - a.y) * (d.x - p.x)) := by unfold crossZ; grind
  rw [e1, e2, h0, Int.zero_add, Int.zero_add, dist m, dist n, hx, hy]
theorem linN {a b p c d : Pt} {m n : Int} (h0 : crossZ a b p = 0) (hx : m * (c.x - p.x) = -(n * (d.x - p.x))) (hy : m * (c.y - p.y) = -(n * (d.y - p.y))) : m * crossZ a b c = -(n * crossZ a b d) := by
  rw [← Int.neg_mul] at hx hy ⊢
  exact lin h0 hx hy
theorem par {ux uy px py qx qy : Int} (hu : ux ≠ 0 ∨ uy ≠ 0) (hp : ux * py = uy * px) (hq : ux * qy = uy * qx) : px * qy = py * qx := by
  rcases hu with h | h
  · apply Int.eq_of_mul_eq_mul_left h
    grind
  · apply Int.eq_of_mul_eq_mul_left h
    grind
/-- If one line's ends are both on the other, all are on one. -/
theorem one_line {a b c d : Pt} (hab : a ≠ b) (hA : crossZ a b c = 0) (hB : crossZ a b d = 0) : crossZ c d a = 0 ∧ crossZ c d b = 0 := by
  have h := par (ux := b.x - a.x) (uy := b.y - a.y) (px := c.x - a.x) (py := c.y - a.y) (qx := d.x - a.x) (qy := d.y - a.y) (by have := pt_ne hab; omega) (by unfold crossZ at hA; omega) (by unfold crossZ at hB; omega)
  have hC : crossZ c d a = 0 := by unfold crossZ; grind
  exact ⟨hC, by rw [cross_diff a b c d, hC, hA, hB]; rfl⟩
theorem turn_eq0 {a b c : Pt} (h : crossZ a b c = 0) : turnZ a b c = 0 := (turn0 a b c).2 h
theorem mul_self_nonneg' (n : Int) : 0 ≤ n * n := by
  rcases Int.le_total 0 n with h | h
  · exact Int.mul_nonneg h h
  · have := Int.mul_nonneg (a := -n) (b := -n) (by omega) (by omega)
    rwa [Int.neg_mul_neg] at this
theorem sg_mul {x y : Int} (hx : x ≠ 0) (hy : y ≠ 0) (h : sgnZ x ≠ sgnZ y) : sgnZ x * sgnZ y < 0 := by
  rcases sg_cases x with ⟨h2, k2⟩ | ⟨h2, k2⟩ | ⟨h2, k2⟩ <;> rcases sg_cases y with ⟨h3, k3⟩ | ⟨h3, k3⟩ | ⟨h3, k3⟩ <;> rw [k2, k3] at h ⊢ <;> first | exact absurd rfl h | exact absurd h2 hx | exact absurd h3 hy | decide
theorem meet_eq (a b c d : Pt) (hab : a ≠ b) (hcd : c ≠ d) : meetL a b c d = meetR a b c d := by
  unfold meetL meetR
  rw [onL_onR a c d, onL_onR b c d, onL_onR c a b, onL_onR d a b]
  by_cases hz : turnZ a b c = 0 ∧ turnZ a b d = 0
  · rw [if_pos hz]
    have hap : apartB a b c d = false := by unfold apartB; rw [hz.1]; simp
    rw [hap, Bool.or_false]
    have key : onR a c d = false → onR b c d = false → sameB a b c d = (withinB a c d && withinB b c d) := by
      intro h1 h2
      rw [Bool.eq_iff_iff]
      have hw : ∀ p, onR p c d = false → (withinB p c d = true ↔ p = c ∨ p = d) := by
        intro p hp
        constructor
        · intro hw
          unfold onR at hp
          rw [hw] at hp
          simp only [Bool.true_and, Bool.and_eq_false_iff, Bool.not_eq_false', decide_eq_true_eq] at hp
          exact hp
        · rintro (rfl | rfl)
          · exact decide_eq_true ⟨turn_eq0 (cross_aba _ _), by omega, by omega⟩
          · exact decide_eq_true ⟨turn_eq0 (cross_abb _ _), by omega, by omega⟩
      rw [Bool.and_eq_true, hw a h1, hw b h2]
      unfold sameB
      simp only [Bool.or_eq_true, Bool.and_eq_true, decide_eq_true_eq]
      constructor
      · rintro (⟨h, k⟩ | ⟨h, k⟩)
        · exact ⟨.inl h, .inr k⟩
        · exact ⟨.inr h, .inl k⟩
      · rintro ⟨h | h, k | k⟩
        · exact absurd (h.trans k.symm) hab
        · exact .inl ⟨h, k⟩
        · exact .inr ⟨h, k⟩
        · exact absurd (h.trans k.symm) hab
    revert key
    cases onR a c d <;> cases onR b c d <;> simp
    intro key
    rw [key]
    cases onR c a b <;> cases onR d a b <;> simp
  · rw [if_neg hz]
    have hz' : ¬ (crossZ a b c = 0 ∧ crossZ a b d = 0) := by rw [← turn0, ← turn0]; exact hz
    have hCD : ¬ (crossZ c d a = 0 ∧ crossZ c d b = 0) := fun h => hz' (one_line hcd h.1 h.2)
    have s1 := cross_swap a b d
    have s2 := cross_swap a b c
    have hon : ∀ p x y, x ≠ y → (onR p x y = true ↔ crossZ x y p = 0 ∧ p ≠ x ∧ p ≠ y ∧ ∃ m n : Int, 0 < m ∧ 0 < n ∧ m * (x.x - p.x) = -(n * (y.x - p.x)) ∧ m * (x.y - p.y) = -(n * (y.y - p.y))) := fun p x y h => onR_iff p x y h
    by_cases hsh : (a = c ∨ a = d) ∨ b = c ∨ b = d
    · rw [if_pos hsh, Bool.eq_false_iff]
      intro h
      simp only [Bool.or_eq_true, hon a c d hcd, hon b c d hcd, hon c a b hab, hon d a b hab] at h
      have hsame : sameB a b c d = false := by
        rw [Bool.eq_false_iff]; intro hs
        unfold sameB at hs
        simp only [Bool.or_eq_true, Bool.and_eq_true, decide_eq_true_eq] at hs
        rcases hs with ⟨rfl, rfl⟩ | ⟨rfl, rfl⟩
        · exact hz' ⟨cross_aba _ _, cross_abb _ _⟩
        · exact hz' ⟨cross_abb _ _, cross_aba _ _⟩
      have hapart : apartB a b c d = false := by
        unfold apartB
        rcases hsh with (rfl | rfl) | rfl | rfl
        · rw [turn_eq0 (cross_aba a b)]; simp
        · rw [turn_eq0 (cross_aba a b)]; simp
        · rw [turn_eq0 (cross_abb a b)]; simp
        · rw [turn_eq0 (cross_abb a b)]; simp
      rw [hsame, hapart] at h
      simp only [Bool.false_eq_true, or_false] at h
      rcases h with h | h | h | h
      · obtain ⟨h0, h1, h2, _⟩ := h
        rcases hsh with (h | h) | rfl | rfl
        · exact h1 h
        · exact h2 h
        · exact hCD ⟨h0, cross_aba _ _⟩
        · exact hCD ⟨h0, cross_abb _ _⟩
      · obtain ⟨h0, h1, h2, _⟩ := h
        rcases hsh with (rfl | rfl) | h | h
        · exact hCD ⟨cross_aba _ _, h0⟩
        · exact hCD ⟨cross_abb _ _, h0⟩
        · exact h1 h
        · exact h2 h
      · obtain ⟨h0, h1, h2, _⟩ := h
        rcases hsh with (h | rfl) | h | rfl
        · exact h1 h.symm
        · exact hz' ⟨h0, cross_aba _ _⟩
        · exact h2 h.symm
        · exact hz' ⟨h0, cross_abb _ _⟩
      · obtain ⟨h0, h1, h2, _⟩ := h
        rcases hsh with (rfl | h) | rfl | h
        · exact hz' ⟨cross_aba _ _, h0⟩
        · exact h1 h.symm
        · exact hz' ⟨cross_abb _ _, h0⟩
        · exact h2 h.symm
    · rw [if_neg hsh]
      simp only [not_or] at hsh
      obtain ⟨⟨hac, had⟩, hbc, hbd⟩ := hsh
      have hsame : sameB a b c d = false := by unfold sameB; simp [hac, had]
      rw [hsame, Bool.false_or, Bool.eq_iff_iff]
      have hR : (!(decide (turnZ a b c = turnZ a b d) || decide (turnZ c d a = turnZ c d b))) = true ↔ turnZ a b c ≠ turnZ a b d ∧ turnZ c d a ≠ turnZ c d b := by simp
      rw [hR]
      have hP : apartB a b c d = true ↔ turnZ a b c * turnZ a b d < 0 ∧ turnZ c d a * turnZ c d b < 0 := by unfold apartB; simp
      simp only [Bool.or_eq_true, hon a c d hcd, hon b c d hcd, hon c a b hab, hon d a b hab, hP]
      clear hP hR hsame hon s1 s2
      have opp : ∀ x y : Int, (x < 0 ↔ 0 < y) ∧ (0 < x ↔ y < 0) ∧ (x = 0 ↔ y = 0) → ¬ (x = 0 ∧ y = 0) → sgnZ x ≠ sgnZ y := by
        intro x y h h0
        rcases sg_cases x with ⟨h2, k2⟩ | ⟨h2, k2⟩ | ⟨h2, k2⟩ <;> rcases sg_cases y with ⟨h3, k3⟩ | ⟨h3, k3⟩ | ⟨h3, k3⟩ <;> rw [k2, k3] <;> omega
      have zer : ∀ x y : Int, x = 0 → ¬ (x = 0 ∧ y = 0) → sgnZ x ≠ sgnZ y := by
        intro x y h h0
        rcases sg_cases y with ⟨h3, k3⟩ | ⟨h3, k3⟩ | ⟨h3, k3⟩ <;> rw [h, k3, sg_zero] <;> omega
      constructor
      · rintro ((h | h | h | h) | h)
        · obtain ⟨h0, _, _, m, n, hm, hn, hx, hy⟩ := h
          exact ⟨opp _ _ (pos_other hm hn (linN (cross_aba a b) hx hy)) hz', zer _ _ h0 hCD⟩
        · obtain ⟨h0, _, _, m, n, hm, hn, hx, hy⟩ := h
          exact ⟨opp _ _ (pos_other hm hn (linN (cross_abb a b) hx hy)) hz', (zer _ _ h0 (fun h => hCD ⟨h.2, h.1⟩)).symm⟩
        · obtain ⟨h0, _, _, m, n, hm, hn, hx, hy⟩ := h
          exact ⟨zer _ _ h0 hz', opp _ _ (pos_other hm hn (linN (cross_aba c d) hx hy)) hCD⟩
        · obtain ⟨h0, _, _, m, n, hm, hn, hx, hy⟩ := h
          exact ⟨(zer _ _ h0 (fun h => hz' ⟨h.2, h.1⟩)).symm, opp _ _ (pos_other hm hn (linN (cross_abb c d) hx hy)) hCD⟩
        · obtain ⟨h1, h2⟩ := h
          refine ⟨fun e => ?_, fun e => ?_⟩
          · rw [e] at h1
            have := mul_self_nonneg' (turnZ a b d)
            omega
          · rw [e] at h2
            have := mul_self_nonneg' (turnZ c d b)
            omega
      · rintro ⟨h1, h2⟩
        by_cases hA : crossZ a b c = 0
        · rcases line_cases c a b hA hab with h | h | h | ⟨m, n, hm, hn, hx, hy⟩
          · exact absurd h.symm hac
          · exact absurd h.symm hbc
          · exact .inl (.inr (.inr (.inl ⟨hA, fun h => hac h.symm, fun h => hbc h.symm, h⟩)))
          · exact absurd (sg_scale hm hn (lin (cross_aba c d) hx hy)) h2
        by_cases hB : crossZ a b d = 0
        · rcases line_cases d a b hB hab with h | h | h | ⟨m, n, hm, hn, hx, hy⟩
          · exact absurd h.symm had
          · exact absurd h.symm hbd
          · exact .inl (.inr (.inr (.inr ⟨hB, fun h => had h.symm, fun h => hbd h.symm, h⟩)))
          · exact absurd (sg_scale hm hn (lin (cross_abb c d) hx hy)) h2
        by_cases hC : crossZ c d a = 0
        · rcases line_cases a c d hC hcd with h | h | h | ⟨m, n, hm, hn, hx, hy⟩
          · exact absurd h hac
          · exact absurd h had
          · exact .inl (.inl ⟨hC, hac, had, h⟩)
          · exact absurd (sg_scale hm hn (lin (cross_aba a b) hx hy)) h1
        by_cases hD : crossZ c d b = 0
        · rcases line_cases b c d hD hcd with h | h | h | ⟨m, n, hm, hn, hx, hy⟩
          · exact absurd h hbc
          · exact absurd h hbd
          · exact .inl (.inr (.inl ⟨hD, hbc, hbd, h⟩))
          · exact absurd (sg_scale hm hn (lin (cross_abb a b) hx hy)) h1
        refine .inr ⟨sg_mul hA hB h1, sg_mul hC hD h2⟩
end Go.Proofs.Ytlhmjhildlnokaa
