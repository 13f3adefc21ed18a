/-
  The plain law of layer 5: points turned around, mirrored, moved; directions. No walk stands here.
-/
import Derived.Test.YtlhmjhildlnokaaGeo2
namespace Go.Proofs.Ytlhmjhildlnokaa
set_option linter.unusedVariables false
set_option linter.unusedSimpArgs false

def flipP (a : Pt) : Pt := ⟨a.y, a.x⟩
def moveP (a v : Pt) : Pt := ⟨a.x + v.x, a.y + v.y⟩
theorem turn_rot (a b c : Pt) : turnZ b c a = turnZ a b c := by unfold turnZ; rw [cross_rot]
theorem turn_back (a b c : Pt) : turnZ b a c = - turnZ a b c := by
  unfold turnZ; rw [← sg_negate]; congr 1; unfold crossZ; grind
theorem turn_flip (a b c : Pt) : turnZ (flipP a) (flipP b) (flipP c) = - turnZ a b c := by
  unfold turnZ; rw [← sg_negate]; congr 1; unfold crossZ flipP; grind
theorem turn_move (a b c v : Pt) : turnZ (moveP a v) (moveP b v) (moveP c v) = turnZ a b c := by
  unfold turnZ; congr 1; unfold crossZ moveP; grind
theorem onL_swap (p a b : Pt) : onL p b a = onL p a b := by
  unfold onL betwB
  rw [turn_back a b p, Bool.or_comm]
  congr 1
  rw [decide_eq_decide]; omega
theorem flip_eq (a b : Pt) : (flipP a = flipP b) ↔ a = b := by
  obtain ⟨ax, ay⟩ := a; obtain ⟨bx, b_y⟩ := b
  simp [flipP]; exact ⟨fun ⟨h, k⟩ => ⟨k, h⟩, fun ⟨h, k⟩ => ⟨k, h⟩⟩
theorem move_eq (a b v : Pt) : (moveP a v = moveP b v) ↔ a = b := by
  obtain ⟨ax, ay⟩ := a; obtain ⟨bx, b_y⟩ := b
  simp [moveP]
theorem onR_flip (p a b : Pt) : onR (flipP p) (flipP a) (flipP b) = onR p a b := by
  have h : WithinP (flipP p) (flipP a) (flipP b) ↔ WithinP p a b := by
    unfold WithinP
    rw [turn_flip]
    simp only [flipP]
    constructor
    · rintro ⟨h1, h2, h3⟩; exact ⟨by omega, h3, h2⟩
    · rintro ⟨h1, h2, h3⟩; exact ⟨by omega, h3, h2⟩
  unfold onR withinB
  rw [decide_eq_decide.2 h, decide_eq_decide.2 (flip_eq p a), decide_eq_decide.2 (flip_eq p b)]
theorem onL_flip (p a b : Pt) : onL (flipP p) (flipP a) (flipP b) = onL p a b := by rw [onL_onR, onL_onR, onR_flip]
theorem onL_move (p a b v : Pt) : onL (moveP p v) (moveP a v) (moveP b v) = onL p a b := by
  have hl : ∀ a b : Pt, lessB (moveP a v) (moveP b v) = lessB a b := fun a b => by
    unfold lessB
    rw [decide_eq_decide]
    simp only [LessP, moveP]; omega
  unfold onL betwB
  rw [turn_move, hl, hl, hl, hl]
theorem same_swap (a b c d : Pt) : sameB b a c d = sameB a b c d := by
  unfold sameB
  rw [Bool.or_comm]
  congr 1 <;> rw [Bool.and_comm]
theorem same_turn (a b c d : Pt) : sameB c d a b = sameB a b c d := by
  unfold sameB
  have e : ∀ x y : Pt, decide (x = y) = decide (y = x) := fun x y => by rw [decide_eq_decide]; exact ⟨Eq.symm, Eq.symm⟩
  rw [e c a, e d b, e c b, e d a, Bool.and_comm (decide (b = c))]
theorem apart_swap (a b c d : Pt) : apartB b a c d = apartB a b c d := by
  unfold apartB
  rw [turn_back a b c, turn_back a b d, Int.neg_mul_neg, Int.mul_comm (turnZ c d b)]
theorem apart_turn (a b c d : Pt) : apartB c d a b = apartB a b c d := by
  unfold apartB
  rw [Bool.and_comm]
theorem meet_swap (a b c d : Pt) : meetL b a c d = meetL a b c d := by
  unfold meetL
  rw [onL_swap c a b, onL_swap d a b, same_swap, apart_swap]
  cases onL b c d <;> cases onL a c d <;> rfl
theorem meet_turn (a b c d : Pt) : meetL c d a b = meetL a b c d := by
  unfold meetL
  rw [same_turn, apart_turn]
  cases onL b c d <;> cases onL a c d <;> cases onL c a b <;> cases onL d a b <;> rfl
theorem meet_flip (a b c d : Pt) : meetL (flipP a) (flipP b) (flipP c) (flipP d) = meetL a b c d := by
  have e : ∀ x y : Pt, decide (flipP x = flipP y) = decide (x = y) := fun x y => decide_eq_decide.2 (flip_eq x y)
  unfold meetL sameB apartB
  simp only [onL_flip, e, turn_flip, Int.neg_mul_neg]
theorem meet_move (a b c d v : Pt) : meetL (moveP a v) (moveP b v) (moveP c v) (moveP d v) = meetL a b c d := by
  have e : ∀ x y : Pt, decide (moveP x v = moveP y v) = decide (x = y) := fun x y => decide_eq_decide.2 (move_eq x y v)
  unfold meetL sameB apartB
  simp only [onL_move, e, turn_move]
theorem in_flip (a : Pt) : inB (flipP a) = inB a := by
  unfold inB
  rw [decide_eq_decide]
  unfold InP flipP
  exact ⟨fun ⟨h, k⟩ => ⟨k, h⟩, fun ⟨h, k⟩ => ⟨k, h⟩⟩
theorem ne_comm' (a b : Pt) : decide (a = b) = decide (b = a) := by rw [decide_eq_decide]; exact ⟨Eq.symm, Eq.symm⟩
/-- The program's own words, of points in range. -/
theorem meetB_in {a b c d : Pt} (ha : inB a = true) (hb : inB b = true) (hc : inB c = true) (hd : inB d = true) : meetB a b c d = ((!decide (a = b) && !decide (c = d)) && meetL a b c d) := by
  unfold meetB; rw [ha, hb, hc, hd]; rfl
theorem onB_in {p a b : Pt} (hp : inB p = true) (ha : inB a = true) (hb : inB b = true) : onB p a b = onL p a b := by
  unfold onB; rw [hp, ha, hb]; rfl

/-! ### Directions -/
def halfZ (o a : Pt) : Int := if o.y < a.y ∨ a.y = o.y ∧ o.x < a.x then 0 else 1
def aroundL (o a b : Pt) : Int := if halfZ o a - halfZ o b = 0 then - turnZ o a b else halfZ o a - halfZ o b
def aroundZ (o a b : Pt) : Int := if (inB o && (inB a && inB b)) = true ∧ a ≠ o ∧ b ≠ o then aroundL o a b else 0
def wedgeZ (x y : Int) : Int := if y = 0 then (if 0 < x then 0 else 4) else if 0 < y then (if 0 < x then 1 else if x = 0 then 2 else 3) else (if x < 0 then 5 else if x = 0 then 6 else 7)
def aroundR (o a b : Pt) : Int :=
  if wedgeZ (a.x - o.x) (a.y - o.y) < wedgeZ (b.x - o.x) (b.y - o.y) then -1 else if wedgeZ (b.x - o.x) (b.y - o.y) < wedgeZ (a.x - o.x) (a.y - o.y) then 1 else - turnZ o a b
theorem half_01 (o a : Pt) : halfZ o a = 0 ∨ halfZ o a = 1 := by unfold halfZ; split <;> simp
theorem prod_sign (m n : Int) : (0 < m → 0 < n → 0 < m * n) ∧ (0 < m → n < 0 → m * n < 0) ∧ (m < 0 → 0 < n → m * n < 0) ∧ (m < 0 → n < 0 → 0 < m * n) ∧ (m = 0 → m * n = 0) ∧ (n = 0 → m * n = 0) :=
  ⟨Int.mul_pos, Int.mul_neg_of_pos_of_neg, Int.mul_neg_of_neg_of_pos, Int.mul_pos_of_neg_of_neg, fun h => by rw [h, Int.zero_mul], fun h => by rw [h, Int.mul_zero]⟩
theorem wedge_cases (u v : Int) (h : u ≠ 0 ∨ v ≠ 0) : (wedgeZ u v = 0 ∧ v = 0 ∧ 0 < u) ∨ (wedgeZ u v = 1 ∧ 0 < v ∧ 0 < u) ∨ (wedgeZ u v = 2 ∧ 0 < v ∧ u = 0) ∨ (wedgeZ u v = 3 ∧ 0 < v ∧ u < 0) ∨
    (wedgeZ u v = 4 ∧ v = 0 ∧ u < 0) ∨ (wedgeZ u v = 5 ∧ v < 0 ∧ u < 0) ∨ (wedgeZ u v = 6 ∧ v < 0 ∧ u = 0) ∨ (wedgeZ u v = 7 ∧ v < 0 ∧ 0 < u) := by
  unfold wedgeZ
  split
  · split <;> omega
  · split
    · split
      · omega
      · split <;> omega
    · split
      · omega
      · split <;> omega
/-- Of two directions in one half, the one in the lesser wedge turns to the left. -/
theorem wedge_turn {u v s t : Int} (h1 : u ≠ 0 ∨ v ≠ 0) (h2 : s ≠ 0 ∨ t ≠ 0) (hw : wedgeZ u v < wedgeZ s t) (hh : wedgeZ s t ≤ 3 ∨ 4 ≤ wedgeZ u v) : 0 < u * t - v * s := by
  obtain ⟨a1, a2, a3, a4, a5, a6⟩ := prod_sign u t
  obtain ⟨b1, b2, b3, b4, b5, b6⟩ := prod_sign v s
  have hu := wedge_cases u v h1
  have hs := wedge_cases s t h2
  generalize wedgeZ u v = a at hw hh hu
  generalize wedgeZ s t = b at hw hh hs
  generalize u * t = p at a1 a2 a3 a4 a5 a6 ⊢
  generalize v * s = q at b1 b2 b3 b4 b5 b6 ⊢
  have hp : ∀ x y : Int, 0 < x → y ≤ 0 → 0 < x - y := fun x y h1 h2 => by omega
  have hq : ∀ x y : Int, x = 0 → y < 0 → 0 < x - y := fun x y h1 h2 => by omega
  rcases hu with ⟨rfl, hv, hu⟩ | ⟨rfl, hv, hu⟩ | ⟨rfl, hv, hu⟩ | ⟨rfl, hv, hu⟩ | ⟨rfl, hv, hu⟩ | ⟨rfl, hv, hu⟩ | ⟨rfl, hv, hu⟩ | ⟨rfl, hv, hu⟩ <;>
  rcases hs with ⟨rfl, ht, hs⟩ | ⟨rfl, ht, hs⟩ | ⟨rfl, ht, hs⟩ | ⟨rfl, ht, hs⟩ | ⟨rfl, ht, hs⟩ | ⟨rfl, ht, hs⟩ | ⟨rfl, ht, hs⟩ | ⟨rfl, ht, hs⟩ <;>
  first
    | (exfalso; revert hw; decide)
    | (exfalso; revert hh; decide)
    | exact hp _ _ (a1 hu ht) (Int.le_of_eq (b5 hv))
    | exact hp _ _ (a1 hu ht) (Int.le_of_eq (b6 hs))
    | exact hp _ _ (a1 hu ht) (Int.le_of_lt (b2 hv hs))
    | exact hp _ _ (a1 hu ht) (Int.le_of_lt (b3 hv hs))
    | exact hp _ _ (a4 hu ht) (Int.le_of_eq (b5 hv))
    | exact hp _ _ (a4 hu ht) (Int.le_of_eq (b6 hs))
    | exact hp _ _ (a4 hu ht) (Int.le_of_lt (b2 hv hs))
    | exact hp _ _ (a4 hu ht) (Int.le_of_lt (b3 hv hs))
    | exact hq _ _ (a5 hu) (b2 hv hs)
    | exact hq _ _ (a5 hu) (b3 hv hs)
theorem half_wedge {ox oy ax ay : Int} (h : ax - ox ≠ 0 ∨ ay - oy ≠ 0) : (halfZ ⟨ox, oy⟩ ⟨ax, ay⟩ = 0 ∧ wedgeZ (ax - ox) (ay - oy) ≤ 3) ∨ (halfZ ⟨ox, oy⟩ ⟨ax, ay⟩ = 1 ∧ 4 ≤ wedgeZ (ax - ox) (ay - oy)) := by
  have hw := wedge_cases _ _ h
  unfold halfZ
  simp only
  by_cases q : oy < ay ∨ ay = oy ∧ ox < ax
  · rw [if_pos q]; left; refine ⟨rfl, ?_⟩; omega
  · rw [if_neg q]; right; refine ⟨rfl, ?_⟩; omega
theorem around_wedge {o a b : Pt} (ha : a ≠ o) (hb : b ≠ o) : aroundL o a b = aroundR o a b := by
  have ha := pt_ne ha
  have hb := pt_ne hb
  obtain ⟨ox, oy⟩ := o
  obtain ⟨ax, ay⟩ := a
  obtain ⟨bx, b_y⟩ := b
  simp only at ha hb
  have ha' : ax - ox ≠ 0 ∨ ay - oy ≠ 0 := by omega
  have hb' : bx - ox ≠ 0 ∨ b_y - oy ≠ 0 := by omega
  have h1 := half_wedge ha'
  have h2 := half_wedge hb'
  have t1 := wedge_turn ha' hb'
  have t2 := wedge_turn hb' ha'
  have e2 : (bx - ox) * (ay - oy) - (b_y - oy) * (ax - ox) = -((ax - ox) * (b_y - oy) - (ay - oy) * (bx - ox)) := by grind
  rw [e2] at t2
  unfold aroundL aroundR turnZ crossZ
  simp only
  generalize halfZ ⟨ox, oy⟩ ⟨ax, ay⟩ = ha at h1 ⊢
  generalize halfZ ⟨ox, oy⟩ ⟨bx, b_y⟩ = hb at h2 ⊢
  generalize wedgeZ (ax - ox) (ay - oy) = wa at h1 t1 t2 ⊢
  generalize wedgeZ (bx - ox) (b_y - oy) = wb at h2 t1 t2 ⊢
  generalize (ax - ox) * (b_y - oy) - (ay - oy) * (bx - ox) = z at t1 t2 ⊢
  rcases h1 with ⟨rfl, h1⟩ | ⟨rfl, h1⟩ <;> rcases h2 with ⟨rfl, h2⟩ | ⟨rfl, h2⟩
  · rw [if_pos (by omega)]
    by_cases q : wa < wb
    · rw [if_pos q, sg_pos (t1 q (by omega))]
    · rw [if_neg q]
      by_cases q2 : wb < wa
      · rw [if_pos q2, sg_neg (by have := t2 q2 (by omega); omega)]; rfl
      · rw [if_neg q2]
  · rw [if_neg (by omega), if_pos (by omega)]; rfl
  · rw [if_neg (by omega), if_neg (by omega), if_pos (by omega)]; rfl
  · rw [if_pos (by omega)]
    by_cases q : wa < wb
    · rw [if_pos q, sg_pos (t1 q (by omega))]
    · rw [if_neg q]
      by_cases q2 : wb < wa
      · rw [if_pos q2, sg_neg (by have := t2 q2 (by omega); omega)]; rfl
      · rw [if_neg q2]
theorem turn_oba (o a b : Pt) : turnZ o b a = - turnZ o a b := by
  unfold turnZ; rw [← sg_negate]; congr 1; exact cross_swap o a b
theorem around_anti (o a b : Pt) : aroundZ o a b = - aroundZ o b a := by
  unfold aroundZ
  have e : (inB o && (inB a && inB b)) = (inB o && (inB b && inB a)) := by rw [Bool.and_comm (inB a)]
  rw [e]
  by_cases h : (inB o && (inB b && inB a)) = true ∧ a ≠ o ∧ b ≠ o
  · rw [if_pos h, if_pos ⟨h.1, h.2.2, h.2.1⟩]
    unfold aroundL
    rw [turn_oba o a b]
    split <;> split <;> omega
  · rw [if_neg h, if_neg (fun k => h ⟨k.1, k.2.2, k.2.1⟩)]; rfl
theorem turn_pm (a b c : Pt) : -1 ≤ turnZ a b c ∧ turnZ a b c ≤ 1 := by
  rcases sg_cases (crossZ a b c) with ⟨_, h⟩ | ⟨_, h⟩ | ⟨_, h⟩ <;> unfold turnZ <;> rw [h] <;> omega
theorem around_pm (o a b : Pt) : -1 ≤ aroundZ o a b ∧ aroundZ o a b ≤ 1 := by
  unfold aroundZ aroundL
  have := turn_pm o a b
  have h1 := half_01 o a
  have h2 := half_01 o b
  split
  · split <;> omega
  · omega
theorem around_zero {o a b : Pt} (hi : (inB o && (inB a && inB b)) = true) (ha : a ≠ o) (hb : b ≠ o) (h : aroundZ o a b = 0) : turnZ o a b = 0 := by
  unfold aroundZ aroundL at h
  rw [if_pos ⟨hi, ha, hb⟩] at h
  split at h <;> omega
/-- In one half of the plane. -/
theorem half_plane {ax ay bx b_y cx cy : Int} (ha : 0 < ay ∨ ay = 0 ∧ 0 < ax) (hb : 0 < b_y ∨ b_y = 0 ∧ 0 < bx) (hc : 0 < cy ∨ cy = 0 ∧ 0 < cx) (h1 : 0 ≤ ax * b_y - ay * bx) (h2 : 0 ≤ bx * cy - b_y * cx) : 0 ≤ ax * cy - ay * cx := by
  have hay : 0 ≤ ay := by omega
  have hcy : 0 ≤ cy := by omega
  rcases hb with hb | ⟨rfl, hb⟩
  · have e : (ax * cy - ay * cx) * b_y = (ax * b_y - ay * bx) * cy + (bx * cy - b_y * cx) * ay := by grind
    have k1 := Int.mul_nonneg h1 hcy
    have k2 := Int.mul_nonneg h2 hay
    by_cases h : 0 ≤ ax * cy - ay * cx
    · exact h
    · have := Int.mul_neg_of_neg_of_pos (a := ax * cy - ay * cx) (by omega) hb
      omega
  · have e : ax * 0 - ay * bx = - (ay * bx) := by rw [Int.mul_zero]; omega
    rw [e] at h1
    rcases ha with ha | ⟨rfl, ha⟩
    · have := Int.mul_pos ha hb; omega
    · rw [Int.zero_mul]
      have := Int.mul_nonneg (Int.le_of_lt ha) hcy
      omega
theorem around_trans {o a b c : Pt} (ha : a ≠ o) (hb : b ≠ o) (hc : c ≠ o) (h1 : aroundL o a b ≤ 0) (h2 : aroundL o b c ≤ 0) : aroundL o a c ≤ 0 := by
  have ha := pt_ne ha
  have hb := pt_ne hb
  have hc := pt_ne hc
  have tz : ∀ x y : Pt, - turnZ o x y ≤ 0 ↔ 0 ≤ crossZ o x y := fun x y => by
    unfold turnZ
    rcases sg_cases (crossZ o x y) with ⟨h, k⟩ | ⟨h, k⟩ | ⟨h, k⟩ <;> rw [k] <;> omega
  have h01a := half_01 o a
  have h01b := half_01 o b
  have h01c := half_01 o c
  by_cases hab : halfZ o a - halfZ o b = 0
  · by_cases hbc : halfZ o b - halfZ o c = 0
    · have hac : halfZ o a - halfZ o c = 0 := by omega
      unfold aroundL at h1 h2 ⊢
      rw [if_pos hab, tz] at h1
      rw [if_pos hbc, tz] at h2
      rw [if_pos hac, tz]
      obtain ⟨ox, oy⟩ := o
      obtain ⟨ax, ay⟩ := a
      obtain ⟨bx, b_y⟩ := b
      obtain ⟨cx, cy⟩ := c
      unfold crossZ at h1 h2 ⊢
      unfold halfZ at hab hbc h01a
      simp only at ha hb hc hab hbc h1 h2 h01a ⊢
      rcases h01a with h0 | h0
      · have qa : 0 < ay - oy ∨ ay - oy = 0 ∧ 0 < ax - ox := by
          by_cases q : oy < ay ∨ ay = oy ∧ ox < ax
          · omega
          · rw [if_neg q] at h0; omega
        have qb : 0 < b_y - oy ∨ b_y - oy = 0 ∧ 0 < bx - ox := by
          by_cases q : oy < b_y ∨ b_y = oy ∧ ox < bx
          · omega
          · rw [if_neg q] at hab; omega
        have qc : 0 < cy - oy ∨ cy - oy = 0 ∧ 0 < cx - ox := by
          by_cases q : oy < cy ∨ cy = oy ∧ ox < cx
          · omega
          · rw [if_neg q] at hbc; omega
        exact half_plane qa qb qc h1 h2
      · have qa : 0 < -(ay - oy) ∨ -(ay - oy) = 0 ∧ 0 < -(ax - ox) := by
          by_cases q : oy < ay ∨ ay = oy ∧ ox < ax
          · rw [if_pos q] at h0; omega
          · omega
        have qb : 0 < -(b_y - oy) ∨ -(b_y - oy) = 0 ∧ 0 < -(bx - ox) := by
          by_cases q : oy < b_y ∨ b_y = oy ∧ ox < bx
          · rw [if_pos q] at hab; omega
          · omega
        have qc : 0 < -(cy - oy) ∨ -(cy - oy) = 0 ∧ 0 < -(cx - ox) := by
          by_cases q : oy < cy ∨ cy = oy ∧ ox < cx
          · rw [if_pos q] at hbc; omega
          · omega
        have e : ∀ m n s t : Int, -m * -n - -s * -t = m * n - s * t := fun m n s t => by rw [Int.neg_mul_neg, Int.neg_mul_neg]
        have := half_plane qa qb qc (by rw [e]; exact h1) (by rw [e]; exact h2)
        rw [e] at this
        exact this
    · unfold aroundL at h1 h2 ⊢
      rw [if_neg hbc] at h2
      rw [if_neg (by omega)]
      omega
  · unfold aroundL at h1 h2 ⊢
    rw [if_neg hab] at h1
    by_cases hbc : halfZ o b - halfZ o c = 0
    · rw [if_neg (by omega)]; omega
    · rw [if_neg hbc] at h2; omega
end Go.Proofs.Ytlhmjhildlnokaa
