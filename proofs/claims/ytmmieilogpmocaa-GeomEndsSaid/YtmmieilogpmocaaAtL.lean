/-
  The plain law of a line's Y at a whole X: the numbers on the way fit, and what comes out. No walk stands here.
-/
import Derived.Test.YtmmieilogpmocaaRat5
import Derived.Test.YtmmieilogpmocaaFrac
import Derived.Test.YtmmieilogpmocaaGeo3
namespace Go.Proofs.Ytmmieilogpmocaa
set_option linter.unusedVariables false
set_option linter.unusedSimpArgs false

/-- A number of moderate size. -/
def Md (x : Int) : Prop := -1267650600228229401496703205376 ≤ x ∧ x ≤ 1267650600228229401496703205376
theorem Md.fits {x : Int} (h : Md x) : R256 x := by unfold Md at h; unfold R256; omega
theorem Md.fit {x : Int} (h : Md x) : fitZ x = x := by unfold fitZ; rw [if_pos h.fits]
theorem Md.err {x : Int} (h : Md x) : errZ x = 0 := by unfold errZ; rw [if_pos h.fits]
theorem nx0 {x : Int} (h : Md x) : nx 0 x = 0 := by unfold nx; rw [if_pos rfl, h.err]
theorem tdiv_abs (x : Int) {g : Int} (hg : 0 < g) : (x.tdiv g).natAbs ≤ x.natAbs := by
  rw [Int.natAbs_tdiv]; exact Nat.div_le_self _ _
theorem mkN_abs (n : Int) {d : Int} (hd : d ≠ 0) : (mkN n d).natAbs ≤ n.natAbs := by
  have := tdiv_abs n (gcd_pos (n := n) hd)
  unfold mkN; split <;> omega
theorem mkD_abs (n : Int) {d : Int} (hd : d ≠ 0) : (mkD n d).natAbs ≤ d.natAbs := by
  have := tdiv_abs d (gcd_pos (n := n) hd)
  unfold mkD; split <;> omega
theorem gcd_abs (n : Int) {d : Int} (hd : d ≠ 0) : (gcdZ n d).natAbs ≤ d.natAbs := by
  unfold gcdZ
  have := Nat.le_of_dvd (by omega) (Nat.gcd_dvd_right n.natAbs d.natAbs)
  simpa [Int.gcd] using this
theorem mkE_ok {n d : Int} (hd : d ≠ 0) (hn : Md n) (hm : Md d) : mkE n d = 0 := by
  have h1 := mkN_abs n hd
  have h2 := mkD_abs n hd
  have h3 := gcd_abs n hd
  unfold Md at hn hm
  have k1 : Md (mkN n d) := by unfold Md; omega
  have k2 : Md (mkD n d) := by unfold Md; omega
  have k3 : Md (gcdZ n d) := by unfold Md; omega
  unfold mkE
  rw [if_neg hd, if_pos ⟨k3.fits, k1.fits, k2.fits⟩]
theorem mkV_ok {n d : Int} (hd : d ≠ 0) (hn : Md n) (hm : Md d) : mkV n d = rV (mkN n d) (mkD n d) := by unfold mkV; rw [if_pos (mkE_ok hd hn hm)]
theorem right_one (n : Int) : rightB n 1 = true := rightB_iff.2 ⟨by omega, Int.gcd_one_right n⟩
theorem mk_one (n : Int) : mkN n 1 = n ∧ mkD n 1 = 1 := mk_back (right_one n) (by omega) rfl
theorem sum_small {n d m e z : Int} (h1 : rightB n d = true) (h2 : rightB m e = true) (k1 : Md (n * e)) (k2 : Md (m * d)) (k3 : Md z) (k4 : Md (d * e)) : sumV n d m e z = rV (mkN z (d * e)) (mkD z (d * e)) ∧ sumU n d m e z = 0 := by
  have hd : d * e ≠ 0 := fun h => by
    rcases Int.mul_eq_zero.1 h with h | h
    · have := (rightB_iff.1 h1).1; omega
    · have := (rightB_iff.1 h2).1; omega
  have e0 : sumE n d m e z = 0 := by unfold sumE; rw [nx0 k1, nx0 k2, nx0 k3, nx0 k4]
  unfold sumV sumU madeV madeE
  rw [h1, h2, e0, k3.fit, k4.fit]
  simp only [Bool.and_self, if_true]
  exact ⟨mkV_ok hd k3 k4, mkE_ok hd k3 k4⟩
theorem mul_small {n d m e : Int} (h1 : rightB n d = true) (h2 : rightB m e = true) (k3 : Md (n * m)) (k4 : Md (d * e)) : mulV n d m e = rV (mkN (n * m) (d * e)) (mkD (n * m) (d * e)) ∧ mulU n d m e = 0 := by
  have hd : d * e ≠ 0 := fun h => by
    rcases Int.mul_eq_zero.1 h with h | h
    · have := (rightB_iff.1 h1).1; omega
    · have := (rightB_iff.1 h2).1; omega
  have e0 : prodE (n * m) (d * e) = 0 := by unfold prodE; rw [nx0 k3, nx0 k4]
  unfold mulV mulU madeV madeE
  rw [h1, h2, e0, k3.fit, k4.fit]
  simp only [Bool.and_self, if_true]
  exact ⟨mkV_ok hd k3 k4, mkE_ok hd k3 k4⟩
theorem abs_le {x B : Int} (h : x.natAbs ≤ B.natAbs) (hB : 0 ≤ B) : -B ≤ x ∧ x ≤ B := by omega
/-- The numbers on the way to a line's Y at a whole X: the slope, along it, up. -/
structure AtWay (lx ly rx ry k s t u v : Int) : Prop where
  rst : rightB s t = true
  ruv : rightB u v = true
  mst : Md s ∧ Md t
  muv : Md u ∧ Md v
  make : mkV (ry - ly) (rx - lx) = rV s t ∧ mkE (ry - ly) (rx - lx) = 0
  along : sumV k 1 lx 1 (fitZ (k * 1) - fitZ (lx * 1)) = rV (k - lx) 1 ∧ sumU k 1 lx 1 (fitZ (k * 1) - fitZ (lx * 1)) = 0
  up : mulV (k - lx) 1 s t = rV u v ∧ mulU (k - lx) 1 s t = 0
  done : sumV u v ly 1 (fitZ (u * 1) + fitZ (ly * v)) = rV (mkN ((k - lx) * (ry - ly) + ly * (rx - lx)) (rx - lx)) (mkD ((k - lx) * (ry - ly) + ly * (rx - lx)) (rx - lx)) ∧ sumU u v ly 1 (fitZ (u * 1) + fitZ (ly * v)) = 0
theorem at_way {lx ly rx ry k : Int} (h1 : -268435456 ≤ lx ∧ lx ≤ 268435456) (h2 : -268435456 ≤ ly ∧ ly ≤ 268435456) (h3 : -268435456 ≤ rx ∧ rx ≤ 268435456) (h4 : -268435456 ≤ ry ∧ ry ≤ 268435456)
    (hk : lx ≤ k ∧ k ≤ rx) (hl : lx < rx) : ∃ s t u v, AtWay lx ly rx ry k s t u v := by
  obtain ⟨q, hq⟩ : ∃ q, k - lx = q := ⟨_, rfl⟩
  obtain ⟨dy, hdy⟩ : ∃ q, ry - ly = q := ⟨_, rfl⟩
  obtain ⟨dx, hdx⟩ : ∃ q, rx - lx = q := ⟨_, rfl⟩
  have bq : 0 ≤ q ∧ q ≤ 536870912 := by omega
  have by_ : -536870912 ≤ dy ∧ dy ≤ 536870912 := by omega
  have bx : 0 < dx ∧ dx ≤ 536870912 := by omega
  have hd : dx ≠ 0 := by omega
  obtain ⟨s, hs⟩ : ∃ s, mkN dy dx = s := ⟨_, rfl⟩
  obtain ⟨t, ht⟩ : ∃ t, mkD dy dx = t := ⟨_, rfl⟩
  have bs := mkN_abs dy hd
  have bt := mkD_abs dy hd
  obtain ⟨m1, m2, m3⟩ := mk_spec (n := dy) hd
  have r1 := mk_right (n := dy) hd
  rw [hs] at bs m1 r1 m3
  rw [ht] at bt m1 m2 r1 m3
  have bs' : -536870912 ≤ s ∧ s ≤ 536870912 := by omega
  have bt' : 0 < t ∧ t ≤ 536870912 := by omega
  have pqs := mul_bound (u := q) (v := s) (B := 536870912) (C := 536870912) (by omega) (by omega) bs'.1 bs'.2
  obtain ⟨z, hz⟩ : ∃ z, q * s = z := ⟨_, rfl⟩
  rw [hz] at pqs
  obtain ⟨u, hu⟩ : ∃ g, mkN z (1 * t) = g := ⟨_, rfl⟩
  obtain ⟨v, hv⟩ : ∃ g, mkD z (1 * t) = g := ⟨_, rfl⟩
  have ht0 : (1 : Int) * t ≠ 0 := by omega
  have bu := mkN_abs z ht0
  have bv := mkD_abs z ht0
  obtain ⟨n1, n2, n3⟩ := mk_spec (n := z) ht0
  have r2 := mk_right (n := z) ht0
  rw [hu] at bu n1 r2
  rw [hv] at bv n1 n2 r2
  have bu' : -288230376151711744 ≤ u ∧ u ≤ 288230376151711744 := by omega
  have bv' : 0 < v ∧ v ≤ 536870912 := by omega
  have plv := mul_bound (u := ly) (v := v) (B := 268435456) (C := 536870912) h2.1 h2.2 (by omega) bv'.2
  obtain ⟨y, hy⟩ : ∃ y, ly * v = y := ⟨_, rfl⟩
  rw [hy] at plv
  have mk1 : Md (k * 1) := by unfold Md; omega
  have ml1 : Md (lx * 1) := by unfold Md; omega
  have mu1 : Md (u * 1) := by unfold Md; omega
  have my : Md y := by unfold Md; omega
  have m11 : Md ((1 : Int) * 1) := by unfold Md; omega
  refine ⟨s, t, u, v, r1, r2, ⟨by unfold Md; omega, by unfold Md; omega⟩, ⟨by unfold Md; omega, by unfold Md; omega⟩, ?_, ?_, ?_, ?_⟩
  · rw [hdy, hdx, mkV_ok hd (by unfold Md; omega) (by unfold Md; omega), hs, ht]
    exact ⟨rfl, mkE_ok hd (by unfold Md; omega) (by unfold Md; omega)⟩
  · rw [mk1.fit, ml1.fit]
    have h := sum_small (n := k) (d := 1) (m := lx) (e := 1) (z := k * 1 - lx * 1) (right_one k) (right_one lx) mk1 ml1 (by unfold Md; omega) m11
    have e1 : k * 1 - lx * 1 = k - lx := by omega
    rw [e1] at h ⊢
    rw [show (1 : Int) * 1 = 1 from rfl, (mk_one (k - lx)).1, (mk_one (k - lx)).2] at h
    exact h
  · rw [hq]
    have h := mul_small (n := q) (d := 1) (m := s) (e := t) (right_one q) r1 (by rw [hz]; unfold Md; omega) (by unfold Md; omega)
    rw [hz, hu, hv] at h
    exact h
  · rw [hy, mu1.fit, my.fit, hq, hdy, hdx]
    have h := sum_small (n := u) (d := v) (m := ly) (e := 1) (z := u * 1 + y) r2 (right_one ly) mu1 (by rw [hy]; exact my) (by unfold Md at *; omega) (by unfold Md; omega)
    refine ⟨h.1.trans ?_, h.2⟩
    have hv1 : v * 1 ≠ 0 := by omega
    have hr := mk_right (n := u * 1 + y) hv1
    obtain ⟨f1, f2, f3⟩ := mk_spec (n := u * 1 + y) hv1
    have key : mkN (u * 1 + y) (v * 1) * dx = (q * dy + ly * dx) * mkD (u * 1 + y) (v * 1) := by
      generalize mkN (u * 1 + y) (v * 1) = N at *
      generalize mkD (u * 1 + y) (v * 1) = D at *
      have hvt : v * t ≠ 0 := fun h => by
        rcases Int.mul_eq_zero.1 h with h | h <;> omega
      apply Int.eq_of_mul_eq_mul_right hvt
      subst hy
      have g1 : N * v = (u + ly * v) * D := by grind
      have g2 : u * t = q * s * v := by rw [hz]; grind
      have g3 : s * dx = dy * t := by grind
      have : N * dx * (v * t) = (N * v) * dx * t := by grind
      rw [this, g1]
      have : (u + ly * v) * D * dx * t = D * ((u * t) * dx + ly * v * dx * t) := by grind
      rw [this, g2]
      have : q * s * v * dx = q * v * (s * dx) := by grind
      rw [this, g3]
      grind
    obtain ⟨e1, e2⟩ := mk_back hr hd key
    rw [e1, e2]
/-- A line from its lesser X to its greater one. -/
def atP_ (l r : Pt) (k : Int) : Int := (k - l.x) * (r.y - l.y) + l.y * (r.x - l.x)
def atN (l r : Pt) (k : Int) : Int := mkN (atP_ l r k) (r.x - l.x)
def atD (l r : Pt) (k : Int) : Int := mkD (atP_ l r k) (r.x - l.x)
theorem at_left {l r : Pt} (h : l.x < r.x) : atN l r l.x = l.y ∧ atD l r l.x = 1 := mk_back (right_one l.y) (by omega) (by unfold atP_; grind)
theorem at_right {l r : Pt} (h : l.x < r.x) : atN l r r.x = r.y ∧ atD l r r.x = 1 := mk_back (right_one r.y) (by omega) (by unfold atP_; grind)
/-- The line has a whole point just where it lies on it, or is an end. -/
theorem at_whole {l r p : Pt} (h : l.x < r.x) (hp : l.x ≤ p.x ∧ p.x ≤ r.x) : (decide (atN l r p.x = p.y) && decide (atD l r p.x = 1)) = (decide (p = l) || (decide (p = r) || onL p l r)) := by
  have hd : r.x - l.x ≠ 0 := by omega
  obtain ⟨k1, k2, k3⟩ := mk_spec (n := atP_ l r p.x) hd
  have e0 : crossZ l r p = p.y * (r.x - l.x) - atP_ l r p.x := by unfold crossZ atP_; grind
  have h1 : (atN l r p.x = p.y ∧ atD l r p.x = 1) ↔ crossZ l r p = 0 := by
    constructor
    · rintro ⟨a, b⟩
      unfold atN at a; unfold atD at b
      rw [a, b] at k1
      omega
    · intro a
      exact mk_back (right_one p.y) hd (by omega)
  have h2 : crossZ l r p = 0 ↔ (p = l ∨ p = r ∨ onL p l r = true) := by
    constructor
    · intro a
      by_cases e1 : p.x = l.x
      · left
        have : (r.x - l.x) * (p.y - l.y) = 0 := by unfold crossZ at a; rw [e1] at a; simpa using a
        rcases Int.mul_eq_zero.1 this with q | q
        · omega
        · obtain ⟨px, py⟩ := p; obtain ⟨lx, ly⟩ := l
          simp only at e1 q ⊢
          rw [e1, show py = ly by omega]
      · by_cases e2 : p.x = r.x
        · right; left
          have : (r.x - l.x) * (p.y - r.y) = 0 := by unfold crossZ at a; rw [e2] at a; grind
          rcases Int.mul_eq_zero.1 this with q | q
          · omega
          · obtain ⟨px, py⟩ := p; obtain ⟨lx, ly⟩ := r
            simp only at e2 q ⊢
            rw [e2, show py = ly by omega]
        · right; right
          unfold onL betwB
          rw [turn_eq0 a]
          have q1 : lessB l p = true := (less_iff l p).2 (.inl (by omega))
          have q2 : lessB p r = true := (less_iff p r).2 (.inl (by omega))
          rw [q1, q2]; rfl
    · rintro (rfl | rfl | a)
      · exact cross_aba _ _
      · exact cross_abb _ _
      · unfold onL at a
        simp only [Bool.and_eq_true, decide_eq_true_eq] at a
        exact (turn0 l r p).1 a.1
  rw [Bool.eq_iff_iff]
  simp only [Bool.and_eq_true, Bool.or_eq_true, decide_eq_true_eq]
  rw [h1, h2]
end Go.Proofs.Ytmmieilogpmocaa
