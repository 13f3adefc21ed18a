/-
  The walks of layer 3 (wide): the small functions.
-/
import Derived.Test.YtmmieilogpmocaaRows
import Derived.Test.YtmmieilogpmocaaBase
import Derived.Test.YtmmieilogpmocaaWideP
import Derived.Deep.LoopGhost
import Derived.Deep.RegionHeld3
import Derived.Deep.QuietTactic
import Derived.BigQuiet
namespace Go.Proofs.Ytmmieilogpmocaa
set_option linter.unusedVariables false
open Go.RowKit

theorem Try.own0 : ownKnob Try.prog.godebug = none := by kernel_rfl
theorem Try.laidOut : laidOutB Try.prog = true := by kernel_rfl

theorem add64 (x y c : Int) (hx : 0 ≤ x) (hy : 0 ≤ y) (hc0 : 0 ≤ c) (hc : c ≤ 1) (w : World) : (callFunc 101 #[.int .u64 x, .int .u64 y, .int .u64 c]).run Try.prog w =
    .ok (.value (.tuple #[.int .u64 ((x + y + c) % 18446744073709551616), .int .u64 ((x + y + c) / 18446744073709551616)])) w := by
  rw [run_callFunc_extern Try.func101 (by kernel_rfl) (by kernel_rfl) (by kernel_rfl) (e := add64Entry) (by kernel_rfl), run_add64 x y c hx hy hc0 hc]
  rfl
/-- The model's entry for math/bits.Sub64. -/
def subEntry : Array Value → Sem Value := fun args => do
  let (x, y, b) ← Extern.MathBitsCarry.three "Sub64" args
  pure (Extern.MathBitsCarry.pair ((x + Extern.MathBitsCarry.m64 - y - b) % Extern.MathBitsCarry.m64) (if x < y + b then 1 else 0))
theorem run_subEntry {P : Program} (x y b : Nat) (hb : b ≤ 1) (w : World) :
    (subEntry #[.int .u64 x, .int .u64 y, .int .u64 b]).run P w =
      .ok (.tuple #[.int .u64 (((x + 18446744073709551616 - y - b) % 18446744073709551616 : Nat) : Int), .int .u64 ((if x < y + b then 1 else 0 : Nat) : Int)]) w := by
  have : b = 0 ∨ b = 1 := by omega
  rcases this with rfl | rfl <;> rfl
theorem sub64 (x y b : Int) (hx : 0 ≤ x) (hx' : x ≤ 18446744073709551615) (hy : 0 ≤ y) (hy' : y ≤ 18446744073709551615) (hb0 : 0 ≤ b) (hb : b ≤ 1) (w : World) : (callFunc 92 #[.int .u64 x, .int .u64 y, .int .u64 b]).run Try.prog w =
    .ok (.value (.tuple #[.int .u64 ((x - y - b) % 18446744073709551616), .int .u64 (-((x - y - b) / 18446744073709551616))])) w := by
  obtain ⟨x, rfl⟩ := Int.eq_ofNat_of_zero_le hx
  obtain ⟨y, rfl⟩ := Int.eq_ofNat_of_zero_le hy
  obtain ⟨b, rfl⟩ := Int.eq_ofNat_of_zero_le hb0
  have e1 : (((x + 18446744073709551616 - y - b) % 18446744073709551616 : Nat) : Int) = ((x : Int) - y - b) % 18446744073709551616 := by omega
  have e2 : ((if x < y + b then 1 else 0 : Nat) : Int) = -(((x : Int) - y - b) / 18446744073709551616) := by split <;> omega
  rw [run_callFunc_extern Try.func92 (by kernel_rfl) (by kernel_rfl) (by kernel_rfl) (e := subEntry) (by kernel_rfl), run_subEntry x y b (by omega), ← e1, ← e2]
  rfl

/-- A call of Add64, its answers under names. -/
theorem add64_ex (x y c : Int) (hx : Wd x) (hy : Wd y) (hc0 : 0 ≤ c) (hc : c ≤ 1) : ∃ r q, (∀ w, (callFunc 101 #[.int .u64 x, .int .u64 y, .int .u64 c]).run Try.prog w = .ok (.value (.tuple #[.int .u64 r, .int .u64 q])) w) ∧
    Wd r ∧ (0 ≤ q ∧ q ≤ 1) ∧ Hid (r + 18446744073709551616 * q = x + y + c) := by
  unfold Wd at *
  refine ⟨_, _, fun w => add64 x y c hx.1 hy.1 hc0 hc w, ?_, ?_, ?_⟩
  · omega
  · omega
  · exact Lib.hid (by omega)
theorem sub64_ex (x y c : Int) (hx : Wd x) (hy : Wd y) (hc0 : 0 ≤ c) (hc : c ≤ 1) : ∃ r q, (∀ w, (callFunc 92 #[.int .u64 x, .int .u64 y, .int .u64 c]).run Try.prog w = .ok (.value (.tuple #[.int .u64 r, .int .u64 q])) w) ∧
    Wd r ∧ (0 ≤ q ∧ q ≤ 1) ∧ Hid (r - 18446744073709551616 * q = x - y - c) := by
  unfold Wd at *
  refine ⟨_, _, fun w => sub64 x y c hx.1 hx.2 hy.1 hy.2 hc0 hc w, ?_, ?_, ?_⟩
  · omega
  · omega
  · exact Lib.hid (by omega)
theorem not64 (a : Int) (ha : Wd a) : bits .xor .u64 IntKind.u64.max a = 18446744073709551615 - a := by
  obtain ⟨h1, h2⟩ := ha
  obtain ⟨n, rfl⟩ := Int.eq_ofNat_of_zero_le h1
  have e : IntKind.u64.max = ((18446744073709551615 : Nat) : Int) := by decide
  rw [e, u64_xor_nat _ _ (by omega) (by omega)]
  have h3 := BitVec.toNat_not (x := BitVec.ofNat 64 n)
  have h4 : ~~~ (BitVec.ofNat 64 n) = BitVec.allOnes 64 ^^^ BitVec.ofNat 64 n := by rw [BitVec.xor_comm, BitVec.xor_allOnes]
  rw [h4, BitVec.toNat_xor, BitVec.toNat_allOnes, BitVec.toNat_ofNat, Nat.mod_eq_of_lt (by omega)] at h3
  have h5 : (2 : Nat) ^ 64 - 1 = 18446744073709551615 := by decide
  rw [h5] at h3
  rw [h3]
  omega

theorem below_w (a b c d : Int) (hd : Wd d) (w : World) :
    Calls Try.prog 87 #[.agg #[.int .u64 a, .int .u64 b, .int .u64 c, .int .u64 d]] w fun e w' => e = .returned (.bool (ngB d)) ∧ Below w.heap.size w w' := by
  obtain ⟨hd1, hd2⟩ := hd
  go_enter Try.func87, Try.ntmps87
  go_wp2
  go_ret
  refine ⟨?_, below_alloc1 _ _⟩
  have e : (d / 9223372036854775808 == 1) = ngB d := by
    unfold ngB
    rw [Bool.eq_iff_iff]; simp; omega
  rw [← e]; rfl
theorem below_x (a b c d : Int) (hd : Wd d) (w : World) :
    Calls Try.prog 87 #[.agg #[.int .u64 a, .int .u64 b, .int .u64 c, .int .u64 d]] w fun e w' => e = .returned (.bool (ngB d)) ∧ w' = w.alloc (.cells #[.int .u64 a, .int .u64 b, .int .u64 c, .int .u64 d] 24) := by
  obtain ⟨hd1, hd2⟩ := hd
  go_enter Try.func87, Try.ntmps87
  go_wp2
  go_ret
  refine ⟨?_, rfl⟩
  have e : (d / 9223372036854775808 == 1) = ngB d := by
    unfold ngB
    rw [Bool.eq_iff_iff]; simp; omega
  rw [← e]; rfl
theorem below_v (a b c d : Int) (v : Bool) (hd : Wd d) (hv : Hid (ngB d = v)) (w : World) :
    Calls Try.prog 87 #[.agg #[.int .u64 a, .int .u64 b, .int .u64 c, .int .u64 d]] w fun e w' => e = .returned (.bool v) ∧ Below w.heap.size w w' := by
  have := below_w a b c d hd w
  rw [hv.out] at this
  exact this
theorem least_any (w : World) :
    Calls Try.prog 88 #[] w fun e w' => e = .returned (.agg #[.int .u64 0, .int .u64 0, .int .u64 0, .int .u64 9223372036854775808]) ∧ Below w.heap.size w w' := by
  go_enter Try.func88, Try.ntmps88
  go_wp2
  go_returns
  exact ⟨rfl, below_alloc1 _ _⟩
theorem of_w (n : Int) (w : World) (h1 : -9223372036854775808 ≤ n) (h2 : n ≤ 9223372036854775807) :
    Calls Try.prog 58 #[.int .i64 n] w fun e w' => e = .returned (iV n) ∧ Below w.heap.size w w' := by
  go_enter Try.func58, Try.ntmps58
  go_wp2
  go_returns
  refine ⟨?_, below_alloc1 _ _⟩
  have e : ∀ k, 9223372036854775808 ≤ k → n / k = n / 9223372036854775808 := by
    intro k hk
    by_cases h : 0 ≤ n
    · rw [Int.ediv_eq_zero_of_lt h (by omega), Int.ediv_eq_zero_of_lt h (by omega)]
    · rw [Int.ediv_eq_neg_one_of_neg_of_le (by omega) (by omega), Int.ediv_eq_neg_one_of_neg_of_le (by omega) (by omega)]
  unfold iV
  rw [e 18446744073709551616 (by omega), e 340282366920938463463374607431768211456 (by omega), e 6277101735386680763835789423207666416102355444464034512896 (by omega)]
  simp only [IntKind.wrap_u64]
set_option maxRecDepth 100000 in
theorem turn_w (a b c d : Int) (ha : Wd a) (hb : Wd b) (hc : Wd c) (hd : Wd d) (w : World) :
    Calls Try.prog 89 #[.agg #[.int .u64 a, .int .u64 b, .int .u64 c, .int .u64 d]] w fun e w' => e = .returned (iV (negZ (sv a b c d))) ∧ Below w.heap.size w w' := by
  have n0 := not64 a ha
  have n1 := not64 b hb
  have n2 := not64 c hc
  have n3 := not64 d hd
  have z0 : Wd 0 := by unfold Wd; omega
  obtain ⟨r0, q0, A0, hr0, hq0, E0⟩ := add64_ex (18446744073709551615 - a) 0 1 (by unfold Wd at *; omega) z0 (by omega) (by omega)
  obtain ⟨r1, q1, A1, hr1, hq1, E1⟩ := add64_ex (18446744073709551615 - b) 0 q0 (by unfold Wd at *; omega) z0 hq0.1 hq0.2
  obtain ⟨r2, q2, A2, hr2, hq2, E2⟩ := add64_ex (18446744073709551615 - c) 0 q1 (by unfold Wd at *; omega) z0 hq1.1 hq1.2
  obtain ⟨r3, q3, A3, hr3, hq3, E3⟩ := add64_ex (18446744073709551615 - d) 0 q2 (by unfold Wd at *; omega) z0 hq2.1 hq2.2
  have hsg : IntKind.u64.signed = false := rfl
  have i0 : ∀ w, (Instr.index 24 (.agg #[.int .u64 a, .int .u64 b, .int .u64 c, .int .u64 d]) (.int .i64 0)).run Try.prog w = .ok (.int .u64 a) w := fun _ => by kernel_rfl
  have i1 : ∀ w, (Instr.index 24 (.agg #[.int .u64 a, .int .u64 b, .int .u64 c, .int .u64 d]) (.int .i64 1)).run Try.prog w = .ok (.int .u64 b) w := fun _ => by kernel_rfl
  have i2 : ∀ w, (Instr.index 24 (.agg #[.int .u64 a, .int .u64 b, .int .u64 c, .int .u64 d]) (.int .i64 2)).run Try.prog w = .ok (.int .u64 c) w := fun _ => by kernel_rfl
  have i3 : ∀ w, (Instr.index 24 (.agg #[.int .u64 a, .int .u64 b, .int .u64 c, .int .u64 d]) (.int .i64 3)).run Try.prog w = .ok (.int .u64 d) w := fun _ => by kernel_rfl
  go_enter Try.func89, Try.ntmps89
  go_wp2
  go_rounds 5
  go_returns
  exact ⟨congrArg Ending.returned (turn_plain ha hb hc hd hr0 hr1 hr2 hr3 hq0 hq1 hq2 hq3 E0.out E1.out E2.out E3.out), by go_grown⟩
end Go.Proofs.Ytmmieilogpmocaa
