/-
  Layer 3 (wide): numbers without a sign, of eight words; plain laws.
-/
import Derived.Test.YtmmieilogpmocaaWide2
namespace Go.Proofs.Ytmmieilogpmocaa
set_option linter.unusedVariables false
open Go.RowKit

/-- Eight words. -/
def mv (a b c d e f g h : Int) : Int := a + 18446744073709551616 * (b + 18446744073709551616 * (c + 18446744073709551616 * (d + 18446744073709551616 * (e + 18446744073709551616 * (f + 18446744073709551616 * (g + 18446744073709551616 * h))))))
/-- A number that has eight words. -/
def M512 (m : Int) : Prop := ∃ a b c d e f g h, Wd a ∧ Wd b ∧ Wd c ∧ Wd d ∧ Wd e ∧ Wd f ∧ Wd g ∧ Wd h ∧ m = mv a b c d e f g h
def mV (m : Int) : Value := .agg #[.int .u64 (m % 18446744073709551616), .int .u64 (m / 18446744073709551616 % 18446744073709551616),
  .int .u64 (m / 18446744073709551616 / 18446744073709551616 % 18446744073709551616),
  .int .u64 (m / 18446744073709551616 / 18446744073709551616 / 18446744073709551616 % 18446744073709551616),
  .int .u64 (m / 18446744073709551616 / 18446744073709551616 / 18446744073709551616 / 18446744073709551616 % 18446744073709551616),
  .int .u64 (m / 18446744073709551616 / 18446744073709551616 / 18446744073709551616 / 18446744073709551616 / 18446744073709551616 % 18446744073709551616),
  .int .u64 (m / 18446744073709551616 / 18446744073709551616 / 18446744073709551616 / 18446744073709551616 / 18446744073709551616 / 18446744073709551616 % 18446744073709551616),
  .int .u64 (m / 18446744073709551616 / 18446744073709551616 / 18446744073709551616 / 18446744073709551616 / 18446744073709551616 / 18446744073709551616 / 18446744073709551616 % 18446744073709551616)]
theorem word_mod {a x : Int} (ha : Wd a) : (a + 18446744073709551616 * x) % 18446744073709551616 = a := by
  unfold Wd at ha; omega
theorem word_div {a x : Int} (ha : Wd a) : (a + 18446744073709551616 * x) / 18446744073709551616 = x := by
  unfold Wd at ha; omega
theorem word_last {a : Int} (ha : Wd a) : a % 18446744073709551616 = a := by
  unfold Wd at ha; omega
theorem mV_mv {a b c d e f g h : Int} (ha : Wd a) (hb : Wd b) (hc : Wd c) (hd : Wd d) (he : Wd e) (hf : Wd f) (hg : Wd g) (hh : Wd h) :
    mV (mv a b c d e f g h) = .agg #[.int .u64 a, .int .u64 b, .int .u64 c, .int .u64 d, .int .u64 e, .int .u64 f, .int .u64 g, .int .u64 h] := by
  unfold mV mv
  simp only [word_mod ha, word_div ha, word_mod hb, word_div hb, word_mod hc, word_div hc, word_mod hd, word_div hd, word_mod he, word_div he, word_mod hf, word_div hf, word_mod hg, word_div hg, word_last hh]
theorem mv_bounds {a b c d e f g h : Int} (ha : Wd a) (hb : Wd b) (hc : Wd c) (hd : Wd d) (he : Wd e) (hf : Wd f) (hg : Wd g) (hh : Wd h) :
    0 ≤ mv a b c d e f g h ∧ mv a b c d e f g h < 13407807929942597099574024998205846127479365820592393377723561443721764030073546976801874298166903427690031858186486050853753882811946569946433649006084096 := by
  unfold mv Wd at *
  omega
/-- 2^512 -/
def big : Int := 13407807929942597099574024998205846127479365820592393377723561443721764030073546976801874298166903427690031858186486050853753882811946569946433649006084096
theorem word_cut (x y : Int) (hx : 0 ≤ x) (h : x < 18446744073709551616 * y) : ∃ a r, Wd a ∧ 0 ≤ r ∧ r < y ∧ x = a + 18446744073709551616 * r := by
  refine ⟨x % 18446744073709551616, x / 18446744073709551616, ?_, ?_, ?_, ?_⟩
  · unfold Wd; omega
  · omega
  · omega
  · omega
theorem M512_iff (m : Int) : M512 m ↔ 0 ≤ m ∧ m < big := by
  constructor
  · rintro ⟨a, b, c, d, e, f, g, h, ha, hb, hc, hd, he, hf, hg, hh, rfl⟩
    exact mv_bounds ha hb hc hd he hf hg hh
  · rintro ⟨h0, h1⟩
    obtain ⟨a, m1, ha, k1, l1, rfl⟩ := word_cut m 726838724295606890549323807888004534353641360687318060281490199180639288113397923326191050713763565560762521606266177933534601628614656 h0 (by unfold big at h1; exact h1)
    obtain ⟨b, m2, hb, k2, l2, rfl⟩ := word_cut m1 39402006196394479212279040100143613805079739270465446667948293404245721771497210611414266254884915640806627990306816 k1 l1
    obtain ⟨c, m3, hc, k3, l3, rfl⟩ := word_cut m2 2135987035920910082395021706169552114602704522356652769947041607822219725780640550022962086936576 k2 l2
    obtain ⟨d, m4, hd, k4, l4, rfl⟩ := word_cut m3 115792089237316195423570985008687907853269984665640564039457584007913129639936 k3 l3
    obtain ⟨e, m5, he, k5, l5, rfl⟩ := word_cut m4 6277101735386680763835789423207666416102355444464034512896 k4 l4
    obtain ⟨f, m6, hf, k6, l6, rfl⟩ := word_cut m5 340282366920938463463374607431768211456 k5 l5
    obtain ⟨g, m7, hg, k7, l7, rfl⟩ := word_cut m6 18446744073709551616 k6 l6
    exact ⟨a, b, c, d, e, f, g, m7, ha, hb, hc, hd, he, hf, hg, by unfold Wd; omega, rfl⟩
theorem mV_words (m : Int) (hm : M512 m) : ∃ a b c d e f g h, Wd a ∧ Wd b ∧ Wd c ∧ Wd d ∧ Wd e ∧ Wd f ∧ Wd g ∧ Wd h ∧ mv a b c d e f g h = m ∧
    mV m = .agg #[.int .u64 a, .int .u64 b, .int .u64 c, .int .u64 d, .int .u64 e, .int .u64 f, .int .u64 g, .int .u64 h] := by
  obtain ⟨a, b, c, d, e, f, g, h, ha, hb, hc, hd, he, hf, hg, hh, rfl⟩ := hm
  exact ⟨a, b, c, d, e, f, g, h, ha, hb, hc, hd, he, hf, hg, hh, rfl, mV_mv ha hb hc hd he hf hg hh⟩

/-- The order of two numbers. -/
def cmpZ (x y : Int) : Int := if x < y then -1 else if y < x then 1 else 0
theorem cmpZ_lt {x y : Int} (h : x < y) : cmpZ x y = -1 := by unfold cmpZ; rw [if_pos h]
theorem cmpZ_gt {x y : Int} (h : y < x) : cmpZ x y = 1 := by unfold cmpZ; rw [if_neg (by omega), if_pos h]
theorem cmpZ_eq {x y : Int} (h : x = y) : cmpZ x y = 0 := by unfold cmpZ; rw [if_neg (by omega), if_neg (by omega)]
theorem tri (a b : Int) : (decide (a < b) = true ∧ Hid (a < b)) ∨ (decide (a < b) = false ∧ decide (b < a) = true ∧ Hid (b < a)) ∨ (decide (a < b) = false ∧ decide (b < a) = false ∧ Hid (a = b)) := by
  by_cases h : a < b
  · exact Or.inl ⟨by simpa using h, Lib.hid h⟩
  · by_cases h' : b < a
    · exact Or.inr (Or.inl ⟨by simpa using h, by simpa using h', Lib.hid h'⟩)
    · exact Or.inr (Or.inr ⟨by simpa using h, by simpa using h', Lib.hid (by omega)⟩)
end Go.Proofs.Ytmmieilogpmocaa
