/-
  Fractions in plain numbers: reduced ones are the same just if their cross products are; reducing keeps the value.
-/
import Derived.Test.YtmmieilogpmocaaRat5
namespace Go.Proofs.Ytmmieilogpmocaa
set_option linter.unusedVariables false

theorem dvd_of_gcd {a b c : Int} (h : a ∣ b * c) (g : Int.gcd a b = 1) : a ∣ c := by
  have := Int.dvd_gcd_mul_iff_dvd_mul.2 h
  rw [g] at this
  simpa using this
theorem frac_unique {n d m e : Int} (hd : 0 < d) (he : 0 < e) (g : Int.gcd n d = 1) (k : Int.gcd m e = 1) (h : n * e = m * d) : n = m ∧ d = e := by
  have h1 : d ∣ e := by
    have : d ∣ n * e := ⟨m, by rw [h, Int.mul_comm]⟩
    exact dvd_of_gcd this (by rw [Int.gcd_comm]; exact g)
  have h2 : e ∣ d := by
    have : e ∣ m * d := ⟨n, by rw [← h, Int.mul_comm]⟩
    exact dvd_of_gcd this (by rw [Int.gcd_comm]; exact k)
  have h3 : d = e := by
    have a1 := Int.le_of_dvd he h1
    have a2 := Int.le_of_dvd hd h2
    omega
  subst h3
  exact ⟨Int.eq_of_mul_eq_mul_right (by omega) h, rfl⟩
theorem gcd_red {n d : Int} (hd : d ≠ 0) : Int.gcd (n.tdiv (Int.gcd n d)) (d.tdiv (Int.gcd n d)) = 1 := by
  have hp : 0 < Int.gcd n d := Int.gcd_pos_of_ne_zero_right n hd
  rw [Int.tdiv_eq_ediv_of_dvd (Int.gcd_dvd_left n d), Int.tdiv_eq_ediv_of_dvd (Int.gcd_dvd_right n d)]
  exact Int.gcd_ediv_gcd_ediv_gcd hp
theorem gcdZ_one {n d : Int} : gcdZ n d = 1 ↔ Int.gcd n d = 1 := by unfold gcdZ; omega
theorem rightB_iff {n d : Int} : rightB n d = true ↔ 0 < d ∧ Int.gcd n d = 1 := by
  unfold rightB; rw [decide_eq_true_eq, gcdZ_one]
/-- Reducing keeps the value, and answers a right fraction. -/
theorem mk_spec {n d : Int} (hd : d ≠ 0) : mkN n d * d = n * mkD n d ∧ 0 < mkD n d ∧ Int.gcd (mkN n d) (mkD n d) = 1 := by
  have hg := gcd_red (n := n) hd
  have hp := gcd_pos (n := n) hd
  have h1 : n.tdiv (gcdZ n d) * gcdZ n d = n := Int.tdiv_mul_cancel (Int.gcd_dvd_left n d)
  have h2 : d.tdiv (gcdZ n d) * gcdZ n d = d := Int.tdiv_mul_cancel (Int.gcd_dvd_right n d)
  have h3 : Int.gcd (n.tdiv (gcdZ n d)) (d.tdiv (gcdZ n d)) = 1 := hg
  unfold mkN mkD
  generalize n.tdiv (gcdZ n d) = p at *
  generalize d.tdiv (gcdZ n d) = q at *
  generalize gcdZ n d = g at *
  clear hg
  subst h1 h2
  have hs : (q * g < 0 ↔ q < 0) := by
    constructor
    · intro h
      by_cases hq : 0 ≤ q
      · have := Int.mul_nonneg hq (Int.le_of_lt hp); omega
      · omega
    · intro h; exact Int.mul_neg_of_neg_of_pos h hp
  have hq : q ≠ 0 := fun h => by subst h; simp at hd
  split
  · next h =>
    have hq2 := hs.1 h
    refine ⟨by grind, by omega, by rw [Int.neg_gcd, Int.gcd_neg]; exact h3⟩
  · next h =>
    have hq2 : ¬ q < 0 := fun k => h (hs.2 k)
    exact ⟨by grind, by omega, h3⟩
theorem mk_right {n d : Int} (hd : d ≠ 0) : rightB (mkN n d) (mkD n d) = true := by
  obtain ⟨_, h1, h2⟩ := mk_spec (n := n) hd
  exact rightB_iff.2 ⟨h1, h2⟩
/-- A right fraction's value, made again, is that fraction. -/
theorem mk_back {n d m e : Int} (hr : rightB n d = true) (he : e ≠ 0) (h : n * e = m * d) : mkN m e = n ∧ mkD m e = d := by
  obtain ⟨h1, h2⟩ := rightB_iff.1 hr
  obtain ⟨k1, k2, k3⟩ := mk_spec (n := m) he
  refine frac_unique k2 h1 k3 h2 ?_
  have : (mkN m e * d) * e = (n * mkD m e) * e := by grind
  exact Int.eq_of_mul_eq_mul_right he this
/-- What stands behind a sum that fits. -/
theorem sum_ok {n d m e z : Int} (h : sumU n d m e z = 0) : rightB n d = true ∧ rightB m e = true ∧ R256 (n * e) ∧ R256 (m * d) ∧ R256 z ∧ R256 (d * e) ∧ mkE z (d * e) = 0 ∧ sumV n d m e z = rV (mkN z (d * e)) (mkD z (d * e)) := by
  unfold sumU at h
  unfold sumV
  by_cases hb : (rightB n d && rightB m e) = true
  · rw [if_pos hb] at h
    rw [if_pos hb]
    obtain ⟨b1, b2⟩ : rightB n d = true ∧ rightB m e = true := by simpa using hb
    unfold madeE at h
    unfold madeV
    by_cases hs : sumE n d m e z = 0
    · rw [if_pos hs] at h
      rw [if_pos hs]
      have hn : ∀ e x, nx e x = 0 → e = 0 ∧ R256 x := by
        intro e x hx
        unfold nx at hx
        by_cases h0 : e = 0
        · rw [if_pos h0] at hx
          refine ⟨h0, ?_⟩
          unfold errZ at hx
          by_cases hr : R256 x
          · exact hr
          · rw [if_neg hr] at hx; omega
        · rw [if_neg h0] at hx; exact absurd hx h0
      unfold sumE at hs
      obtain ⟨h4, r4⟩ := hn _ _ hs
      obtain ⟨h3, r3⟩ := hn _ _ h4
      obtain ⟨h2, r2⟩ := hn _ _ h3
      obtain ⟨_, r1⟩ := hn _ _ h2
      have f3 : fitZ z = z := by unfold fitZ; rw [if_pos r3]
      have f4 : fitZ (d * e) = d * e := by unfold fitZ; rw [if_pos r4]
      rw [f3, f4] at h
      rw [f3, f4]
      refine ⟨b1, b2, r1, r2, r3, r4, h, ?_⟩
      unfold mkV
      rw [if_pos h]
    · rw [if_neg hs] at h; exact absurd h hs
  · rw [if_neg hb] at h; exact absurd h (by decide)
end Go.Proofs.Ytmmieilogpmocaa
