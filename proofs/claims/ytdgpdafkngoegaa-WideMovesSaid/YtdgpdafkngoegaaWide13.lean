/-
  The walks of layer 3 (wide): Shr.
-/
import Derived.Test.YtdgpdafkngoegaaWide11
namespace Go.Proofs.Ytdgpdafkngoegaa
set_option linter.unusedVariables false
set_option linter.unusedSimpArgs false
open Go.RowKit

/-- A word of a number, however high. -/
def wordZ (x : Int) (k : Nat) : Int := x / 18446744073709551616 ^ k % 18446744073709551616
theorem wordZ_Wd (x : Int) (k : Nat) : Wd (wordZ x k) := by
  unfold wordZ Wd
  have h1 := Int.emod_nonneg (x / 18446744073709551616 ^ k) (show (18446744073709551616 : Int) ≠ 0 by decide)
  have h2 := Int.emod_lt_of_pos (x / 18446744073709551616 ^ k) (show (0 : Int) < 18446744073709551616 by decide)
  omega
theorem iL_get (x : Int) (k : Nat) (h : k ≤ 3) : (iL x)[k]? = some (.int .u64 (wordZ x k)) := by
  unfold iL wordZ
  match k, h with
  | 0, _ => simp
  | 1, _ => simp
  | 2, _ => simp
  | 3, _ => simp
def fillZ (x : Int) : Int := if x < 0 then 18446744073709551615 else 0
theorem pow_big (k : Nat) (h : 4 ≤ k) : (57896044618658097711785492504343953926634992332820282019728792003956564819968 : Int) ≤ 18446744073709551616 ^ k := by
  have h1 : (18446744073709551616 : Nat) ^ 4 ≤ 18446744073709551616 ^ k := Nat.pow_le_pow_right (by decide) h
  have h2 : (((18446744073709551616 : Nat) ^ k : Nat) : Int) = (18446744073709551616 : Int) ^ k := by simp
  have h3 : ((18446744073709551616 : Nat) ^ 4) = 115792089237316195423570985008687907853269984665640564039457584007913129639936 := by decide
  omega
theorem wordZ_high (x : Int) (hx : R256 x) (k : Nat) (h : 4 ≤ k) : wordZ x k = fillZ x := by
  have hp := pow_big k h
  unfold R256 at hx
  unfold wordZ fillZ
  generalize (18446744073709551616 : Int) ^ k = P at hp
  by_cases h0 : x < 0
  · rw [if_pos h0, Int.ediv_eq_neg_one_of_neg_of_le h0 (by omega)]; rfl
  · rw [if_neg h0, Int.ediv_eq_zero_of_lt (by omega) (by omega)]; rfl
set_option maxHeartbeats 1000000 in
theorem word_any (x : Int) (hx : R256 x) (k : Nat) (hk : k ≤ 10) {B : Nat} {w0 w : World} {l : List Res} (H : Own B w0 w l) (b5 b2 : Nat) (m5 : Res.cells b5 [.int .u64 (fillZ x)] ∈ l) (m2 : Res.cells b2 (iL x) ∈ l) :
    Calls Try.prog 108 #[.int .i64 (k : Int), .pointer (some ⟨b5, 0, none⟩), .pointer (some ⟨b2, 0, none⟩)] w fun e w' => e = .returned (.int .u64 (wordZ x k)) ∧ w = w' := by
  by_cases h3 : 3 < k
  · rw [wordZ_high x hx k (by omega)]
    have k5 : w.cell? ⟨b5, 0, none⟩ = some (.int .u64 (fillZ x)) := by simpa using H.range m5 (at_cells (b := b5) (o := 0) rfl) 0 _ rfl
    go_enter Try.func108, Try.ntmps108
    go_wp2_with fail
    go_ret
    exact ⟨rfl, rfl⟩
  · have k2 : w.cell? ⟨b2, k, none⟩ = some (.int .u64 (wordZ x k)) := by simpa using H.range m2 (at_cells (b := b2) (o := k) (iL_get x k (by omega))) 0 _ rfl
    go_enter Try.func108, Try.ntmps108
    go_wp2_with fail
    go_ret
    exact ⟨rfl, rfl⟩
theorem word_any2 (x : Int) (hx : R256 x) (k : Nat) (hk : k ≤ 10) (K : Int) (hK : K = (k : Int)) {B : Nat} {w0 w : World} {l : List Res} (H : Own B w0 w l) (b5 b2 : Nat) (m5 : Res.cells b5 [.int .u64 (fillZ x)] ∈ l) (m2 : Res.cells b2 (iL x) ∈ l) :
    Calls Try.prog 108 #[.int .i64 K, .pointer (some ⟨b5, 0, none⟩), .pointer (some ⟨b2, 0, none⟩)] w fun e w' => e = .returned (.int .u64 (wordZ x k)) ∧ w = w' := by
  subst hK
  exact word_any x hx k hk H b5 b2 m5 m2
/-- The first j words of z, noughts behind them. -/
def oR (z : Int) (j : Nat) : List Value := (List.range 4).map fun q => Value.int .u64 (if q < j then wordZ z q else 0)
theorem oR_zero (z : Int) : oR z 0 = [.int .u64 0, .int .u64 0, .int .u64 0, .int .u64 0] := rfl
theorem oR_full (z : Int) : oR z 4 = iL z := by
  unfold oR iL wordZ
  simp [List.range_succ]
theorem oR_set (z : Int) (j : Nat) (h : j < 4) : (oR z j).set j (.int .u64 (wordZ z j)) = oR z (j + 1) := by
  unfold oR
  match j, h with
  | 0, _ => rfl
  | 1, _ => rfl
  | 2, _ => rfl
  | 3, _ => rfl
theorem oR_set0 (z : Int) (j : Nat) (h : j < 4) (v : Value) : ((oR z j).set j v).set j (.int .u64 (wordZ z j)) = oR z (j + 1) := by
  rw [List.set_set]; exact oR_set z j h
theorem oR_length (z : Int) (j : Nat) : (oR z j).length = 4 := by simp [oR]
theorem shift_gen (y P R : Int) (hP : 0 < P) (hR : 0 < R) : (y / P) % (P * R) = (y % (P * R)) / P + ((y / (P * R)) % (P * R) * R) % (P * R) := by
  have hM : 0 < P * R := Int.mul_pos hP hR
  have hy := Int.mul_ediv_add_emod y (P * R)
  have r0 := Int.emod_nonneg y (show P * R ≠ 0 by omega)
  have r1 := Int.emod_lt_of_pos y hM
  generalize y / (P * R) = q at *
  generalize y % (P * R) = r at *
  have e1 : y / P = R * q + r / P := by
    rw [← hy, Int.mul_assoc, Int.add_comm, Int.add_mul_ediv_left _ _ (by omega)]; omega
  have t0 : 0 ≤ r / P := Int.ediv_nonneg r0 (by omega)
  have t1 : r / P < R := Int.ediv_lt_of_lt_mul hP (by rw [Int.mul_comm]; exact r1)
  have hq := Int.mul_ediv_add_emod q P
  have q0 := Int.emod_nonneg q (show P ≠ 0 by omega)
  have q1 := Int.emod_lt_of_pos q hP
  have e2 : R * q = P * R * (q / P) + R * (q % P) := by
    have : R * q = R * (P * (q / P) + q % P) := by rw [hq]
    rw [this, Int.mul_add, ← Int.mul_assoc, Int.mul_comm R P]
  have b0 : 0 ≤ R * (q % P) := Int.mul_nonneg (by omega) q0
  have b1 : R * (q % P) + R ≤ P * R := by
    have h : R * (q % P + 1) ≤ R * P := Int.mul_le_mul_of_nonneg_left (by omega) (by omega)
    rw [Int.mul_add, Int.mul_one, Int.mul_comm R P] at h
    exact h
  have e3 : (q % (P * R) * R) % (P * R) = R * (q % P) := by
    rw [Int.mul_emod, Int.emod_emod_of_dvd _ (Int.dvd_refl _), ← Int.mul_emod, Int.mul_comm q R, e2, Int.add_comm, Int.add_mul_emod_self_left, Int.emod_eq_of_lt b0 (by omega)]
  rw [e1, e3, e2, Int.add_assoc, Int.add_comm, Int.add_mul_emod_self_left, Int.emod_eq_of_lt (by omega) (by omega)]
  omega
theorem pow_split (s : Nat) (hs : s ≤ 64) : (2 : Int) ^ s * 2 ^ (64 - s) = 18446744073709551616 := by
  rw [← Int.pow_add]
  have : s + (64 - s) = 64 := by omega
  rw [this]
  decide
theorem pow_64 (d s : Nat) : (2 : Int) ^ (64 * d + s) = 18446744073709551616 ^ d * 2 ^ s := by
  rw [Int.pow_add, Int.pow_mul]
  rfl
/-- A word of what is moved down, out of two words. -/
theorem word_shift (x : Int) (d s j : Nat) (hs : s < 64) : wordZ (x / 2 ^ (64 * d + s)) j = wordZ x (j + d) / 2 ^ s + (wordZ x (j + d + 1) * 2 ^ (64 - s)) % 18446744073709551616 := by
  have p1 : (0 : Int) < 18446744073709551616 ^ d := Int.pow_pos (by decide)
  have p2 : (0 : Int) < 2 ^ s := Int.pow_pos (by decide)
  have p3 : (0 : Int) < 2 ^ (64 - s) := Int.pow_pos (by decide)
  have p4 : (0 : Int) < 18446744073709551616 ^ j := Int.pow_pos (by decide)
  have e := shift_gen (x / 18446744073709551616 ^ (j + d)) (2 ^ s) (2 ^ (64 - s)) p2 p3
  rw [pow_split s (by omega)] at e
  unfold wordZ
  have e1 : (18446744073709551616 : Int) ^ d * 2 ^ s * 18446744073709551616 ^ j = 18446744073709551616 ^ (j + d) * 2 ^ s := by
    rw [Int.pow_add, Int.mul_assoc, Int.mul_comm (2 ^ s), ← Int.mul_assoc, Int.mul_comm (18446744073709551616 ^ d)]
  have e2 : x / (18446744073709551616 : Int) ^ (j + d + 1) = x / 18446744073709551616 ^ (j + d) / 18446744073709551616 := by
    rw [Int.pow_succ, Int.ediv_ediv_of_nonneg (Int.pow_nonneg (by decide))]
  have p5 : (0 : Int) < 18446744073709551616 ^ (j + d) := Int.pow_pos (by decide)
  rw [pow_64, Int.ediv_ediv_of_nonneg (Int.le_of_lt (Int.mul_pos p1 p2)), e1, ← Int.ediv_ediv_of_nonneg (Int.le_of_lt p5), e, e2]
def ShrRel (w : World) (x z : Int) (c2 c4 c5 c6 : Nat) (k : Nat) (i : Value) (wr : World) : Prop :=
  ∃ j : Nat, j + k = 4 ∧ i = .int .i64 (j : Int) ∧ Own w.heap.size w wr [.cells c6 (oR z j), .cells c5 [.int .u64 (fillZ x)], .cells c4 [.int .u64 0, .int .u64 0, .int .u64 0, .int .u64 0], .cells c2 (iL x)]
theorem fill_plain (x : Int) (hx : R256 x) : IntKind.u64.wrap (wrap64 (wordZ x 3) / 9223372036854775808) = fillZ x := by
  have h : wordZ x 3 = x / 6277101735386680763835789423207666416102355444464034512896 % 18446744073709551616 := rfl
  rw [h]
  unfold R256 at hx
  unfold fillZ wrap64
  rw [IntKind.wrap_u64]
  split <;> omega
theorem or_plain (q r : Int) (hq : Wd q) (hr : Wd r) (t : Nat) (ht : t < 64) : bits .or .u64 (q / 2 ^ t) (IntKind.u64.wrap (r * 2 ^ (64 - t))) = q / 2 ^ t + (r * 2 ^ (64 - t)) % 18446744073709551616 := by
  unfold Wd at hq hr
  obtain ⟨a, rfl⟩ : ∃ a : Nat, q = (a : Int) := ⟨q.toNat, by omega⟩
  obtain ⟨b, rfl⟩ : ∃ b : Nat, r = (b : Int) := ⟨r.toNat, by omega⟩
  have hp : (18446744073709551616 : Nat) = 2 ^ t * 2 ^ (64 - t) := by
    rw [← Nat.pow_add, show t + (64 - t) = 64 by omega]
  have p0 : 0 < 2 ^ t := Nat.pow_pos (by decide)
  have p1 : 0 < 2 ^ (64 - t) := Nat.pow_pos (by decide)
  have e1 : ((a : Int) / 2 ^ t) = ((a / 2 ^ t : Nat) : Int) := by simp
  have e2 : ((b : Int) * 2 ^ (64 - t)) % 18446744073709551616 = (((b * 2 ^ (64 - t)) % 18446744073709551616 : Nat) : Int) := by simp
  rw [IntKind.wrap_u64, e1, e2]
  have l1 : a / 2 ^ t < 2 ^ (64 - t) := by
    rw [Nat.div_lt_iff_lt_mul p0, Nat.mul_comm, ← hp]; omega
  have l2 : (b * 2 ^ (64 - t)) % 18446744073709551616 = 2 ^ (64 - t) * (b % 2 ^ t) := by
    rw [hp, Nat.mul_mod_mul_right, Nat.mul_comm]
  have l3 : a / 2 ^ t < 18446744073709551616 := Nat.lt_of_le_of_lt (Nat.div_le_self _ _) (by omega)
  have l4 : (b * 2 ^ (64 - t)) % 18446744073709551616 < 18446744073709551616 := Nat.mod_lt _ (by decide)
  rw [u64_or_nat _ _ l3 l4, l2, Nat.or_comm, ← Nat.two_pow_add_eq_or_of_lt l1, Nat.add_comm, Int.natCast_add]
set_option maxRecDepth 100000 in
set_option maxHeartbeats 4000000 in
theorem Shr_pos (x : Int) (hx : R256 x) (m : Nat) (hm1 : 1 ≤ m) (hm2 : m < 255) (w : World) :
    Calls Try.prog 46 #[iV x, .int .i64 (m : Int)] w fun e w' => e = .returned (iV (x / 2 ^ m)) ∧ Below w.heap.size w w' := by
  have H := Own.start w
  have fp := fill_plain x hx
  unfold wordZ at fp
  simp only [show (18446744073709551616 : Int) ^ 3 = 6277101735386680763835789423207666416102355444464034512896 from rfl] at fp
  go_enter Try.func46, Try.ntmps46
  have tk0 : True := trivial
  have tk1 : True := trivial
  have tk2 : True := trivial
  have tk3 : True := trivial
  go_wp2_with (guard_target =~ wpList _ _ _ (_ :: _) _ _; (first | (guard_target =~ wpList _ _ _ (Oper.mk _ (.load _ _) _ _ _ _ :: _) _ _; refine BigFrame.wpList_want rfl (fun K hK => ?_); (refine o_loadC (v := ?_) (row := ?_) rfl rfl H ?_ ?_ ?_ (hK _ _ ?_); rotate_left 2; (repeat first | exact .head _ | apply List.Mem.tail); (exact rfl); (focus (intro _; simp [cells_iV, iL_length, setL_i, setL_ii, agg_iL, fp]; done))); clear hK K) | (guard_target =~ wpList _ _ _ (Oper.mk _ (.store _ _ _) _ _ _ _ :: _) _ _; refine BigFrame.wpList_want rfl (fun K hK => ?_); refine o_store (l' := ?_) (row := ?_) rfl rfl H rfl ?_ ?_ ?_ ?_ (fun w3 H2 => hK _ _ ?_); rotate_left 2; (exact r0); (focus (intro _; (simp [Act.eval, Value.cells, List.getD, cells_iV, iL_length, setL_i, setL_ii, agg_iL, fp]; done))); (focus (simp [Act.eval, Value.cells, List.getD, cells_iV, iL_length, setL_i, setL_ii, agg_iL, fp]; done)); (exact rfl); clear hK K; clear H; (try clear w2); revert w3; intro w2 H; (try simp [Act.eval, List.getD, cells_iV, iL_length, setL_i, setL_ii, agg_iL, fp] at H); (try simp [Value.cells, setL, cells_iV, iL_length, setL_i, setL_ii, agg_iL, fp] at H)) | ((first | (guard_target =~ wpList _ _ _ (Oper.mk _ (.alloc _) _ _ _ _ :: _) _ _; refine BigFrame.wpList_want rfl (fun K hK => ?_); refine o_alloc (z := ?_) rfl ?_ H rfl (fun w3 b2 he H2 => hK _ _ ?_); rotate_left 1; (focus (intro _; simp; with_reducible exact rfl))) | (guard_target =~ wpList _ _ _ (Oper.mk _ (.box _ _) _ _ _ _ :: _) _ _; refine BigFrame.wpList_want rfl (fun K hK => ?_); refine o_box rfl H rfl (fun w3 b2 he H2 => hK _ _ ?_))); clear hK K he; clear H; (try clear w2); revert w3; intro w2 H; (try simp [Act.eval, List.getD, cells_iV, iL_length, setL_i, setL_ii, agg_iL, fp] at H); (try simp [Value.cells, setL, cells_iV, iL_length, setL_i, setL_ii, agg_iL, fp] at H); (first | (clear tk0; rename Nat => c2) | (clear tk1; rename Nat => c4) | (clear tk2; rename Nat => c5) | (clear tk3; rename Nat => c6)))); simp only [Act.put, List.setIfInBounds_toArray, List.set_cons_succ, List.set_cons_zero, cells_iV, iL_length, setL_i, setL_ii, agg_iL, fp])
  obtain ⟨d, t, hd, ht, hdt⟩ : ∃ d t : Nat, d ≤ 3 ∧ t < 64 ∧ m = 64 * d + t := ⟨m / 64, m % 64, by omega, by omega, by omega⟩
  have ed : (m : Int) / 64 = (d : Int) := by omega
  have et : (m : Int) % 64 = (t : Int) := by omega
  have hz : ∀ j, wordZ (x / 2 ^ m) j = wordZ x (j + d) / 2 ^ t + (wordZ x (j + d + 1) * 2 ^ (64 - t)) % 18446744073709551616 := fun j => by rw [hdt]; exact word_shift x d t j ht
  have HZ := Lib.hid hz
  have HD := Lib.hid hdt
  clear hz hdt
  go_loopg [19] 4 (ShrRel w x (x / 2 ^ m) c2 c4 c5 c6)
  case atStart => exact ⟨0, rfl, rfl, H⟩
  case round =>
    clear H
    obtain ⟨j, hj, rfl, H⟩ := hrel
    by_cases h0 : j < 4
    · by_cases ht0 : t = 0
      · subst ht0
        go_wp2_with (first
          | (go_at_call 108; (with_reducible refine (word_any2 x hx (j + d) (by omega) (↑j + ↑d) (by omega) H c5 c2 m1 m3).mono ?_); rintro e w3 ⟨rfl, rfl⟩; dsimp only)
          | (guard_target =~ wpList _ _ _ (_ :: _) _ _; (guard_target =~ wpList _ _ _ (Oper.mk _ (.store _ _ _) _ _ _ _ :: _) _ _; refine BigFrame.wpList_want rfl (fun K hK => ?_); refine o_store (l' := ?_) (row := ?_) rfl rfl H rfl ?_ ?_ ?_ ?_ (fun w3 H2 => hK _ _ ?_); rotate_left 2; (exact r0); (focus (intro _; (simp [Act.eval, Value.cells, List.getD, cells_iV, iL_length, setL_i, setL_ii, agg_iL, oR_length]; done))); (focus ((try simp [Act.eval, Value.cells, List.getD, cells_iV, iL_length, setL_i, setL_ii, agg_iL, oR_length]); omega)); (exact rfl); clear hK K; clear H; (try clear w2); revert w3; intro w2 H; (try simp [Act.eval, List.getD, cells_iV, iL_length, setL_i, setL_ii, agg_iL, oR_length] at H); (try simp [Value.cells, setL, cells_iV, iL_length, setL_i, setL_ii, agg_iL, oR_length] at H)); simp only [Act.put, List.setIfInBounds_toArray, List.set_cons_succ, List.set_cons_zero, cells_iV, iL_length, setL_i, setL_ii, agg_iL, oR_length]))
        have ez : wordZ x (j + d) = wordZ (x / 2 ^ m) j := by
          have e := HZ.out j
          have f : (wordZ x (j + d + 1) * 2 ^ (64 - 0)) % 18446744073709551616 = 0 := Int.mul_emod_left _ _
          rw [f, Int.pow_zero, Int.ediv_one, Int.add_zero] at e
          exact e.symm
        go_roundg (3 - j)
        case rel =>
          refine ⟨j + 1, by omega, by simp, ?_⟩
          simpa [ez, oR_set _ _ h0] using H
        case measure => omega
      · have ld : (Res.cells c6 ((oR (x / 2 ^ m) j).set j (.int .u64 (wordZ x (j + d) / 2 ^ t)))).at c6 j [.int .u64 (wordZ x (j + d) / 2 ^ t)] := at_cells (by rw [List.getElem?_set_self (by rw [oR_length]; exact h0)])
        go_wp2_with (first
          | (guard_target =~ Code.wp _ (Code.region 12 _ true) _ _ _; refine region_tree 12 1 (G := ?_) (.q 0 (.q 1 (.q 3 (.q 4 (.q 5 (.q 6 (.q 7 (.q 8 (.q 10 (.q 11 (.q 12 (.both (.e 2 (.e 9 (.q 13 (.q 14 (.q 15 (.e 16 .nil)))))) (.e 9 (.q 13 (.e 2 (.q 14 (.q 15 (.e 16 .nil)))))))))))))))))) (by kernel_rfl) (by intro c a d v w h; cases d <;> exact h) (by kernel_rfl) H ?_ (fun key12 w3 H2 => ?_); rotate_left 2; (revert w3; intro w2 H); simp only [List.drop_succ_cons, List.drop_zero])
          | (guard_target =~ Key 12 _; refine ⟨?_⟩; intro w2 H)
          | (go_at_call 108; (with_reducible refine (word_any2 x hx (j + d) (by omega) (↑j + ↑d) (by omega) H c5 c2 m1 m3).mono ?_); rintro e w3 ⟨rfl, rfl⟩; dsimp only; (skip))
          | (go_at_call 108; (with_reducible refine (word_any2 x hx (j + d + 1) (by omega) (↑j + ↑d + 1) (by omega) H c5 c2 m1 m3).mono ?_); rintro e w3 ⟨rfl, rfl⟩; dsimp only; (refine hK _ _ ⟨_, H, by repeat first | exact .here | apply Suf.there⟩ ?_; clear hK K; (try simp only [Act.put, List.setIfInBounds_toArray, List.set_cons_succ, List.set_cons_zero, cells_iV, iL_length, setL_i, setL_ii, agg_iL, oR_length])))
          | (guard_target =~ wpList _ _ _ (_ :: _) _ _; (guard_target =~ wpList _ _ _ (Oper.mk _ (.store _ _ _) _ _ _ _ :: _) _ _; refine BigFrame.wpList_want rfl (fun K hK => ?_); refine o_store (l' := ?_) (row := ?_) rfl rfl H rfl ?_ ?_ ?_ ?_ (fun w3 H2 => hK _ _ ?_); rotate_left 2; (exact r0); (focus (intro _; (simp [Act.eval, Value.cells, List.getD, cells_iV, iL_length, setL_i, setL_ii, agg_iL, oR_length]; done))); (focus ((try simp [Act.eval, Value.cells, List.getD, cells_iV, iL_length, setL_i, setL_ii, agg_iL, oR_length]); omega)); (exact rfl); clear hK K; clear H; (try clear w2); revert w3; intro w2 H; (try simp [Act.eval, List.getD, cells_iV, iL_length, setL_i, setL_ii, agg_iL, oR_length] at H); (try simp [Value.cells, setL, cells_iV, iL_length, setL_i, setL_ii, agg_iL, oR_length] at H)); simp only [Act.put, List.setIfInBounds_toArray, List.set_cons_succ, List.set_cons_zero, cells_iV, iL_length, setL_i, setL_ii, agg_iL, oR_length])
          | (guard_target =~ wpTree _ _ _ _ _ _ _; first | (guard_target =~ wpTree _ _ _ (Tr.q _ _) _ _ _; first | (refine tree_quiet ⟨_, H, by repeat first | exact .here | apply Suf.there⟩ rfl rfl rfl (fun K hK => ?_); simp only [List.getElem_toArray, List.getElem_cons_succ, List.getElem_cons_zero]; first | (guard_target =~ Oper.quiet _ (Oper.mk _ (.load _ _) _ _ _ _) _ _ _; (first | fail); clear hK K; simp only [Act.put, List.setIfInBounds_toArray, List.set_cons_succ, List.set_cons_zero, cells_iV, iL_length, setL_i, setL_ii, agg_iL, oR_length]) | (go_big_quiet_op; (try refine ⟨_, fun _ _ => rfl, ?_⟩); refine hK _ ?_; clear hK K)) | (refine tree_skip ⟨_, H, by repeat first | exact .here | apply Suf.there⟩ rfl rfl ?_; simp only [List.getElem_toArray, List.getElem_cons_succ, List.getElem_cons_zero, Act.put, List.setIfInBounds_toArray, List.set_cons_succ, List.set_cons_zero])) | (guard_target =~ wpTree _ _ _ (Tr.both _ _) _ _ _; refine tree_both ?_ ?_) | (guard_target =~ wpTree _ _ _ (Tr.e _ _) _ _ _; first | (refine tree_one rfl rfl (fun K hK => ?_); simp only [List.getElem_toArray, List.getElem_cons_succ, List.getElem_cons_zero]; first | ((first | (guard_target =~ Oper.wp _ (Oper.mk _ (.store _ _ _) _ _ _ _) _ _ _ _; refine o_store (l' := ?_) (row := ?_) rfl rfl H rfl ?_ ?_ ?_ ?_ (fun w3 H2 => hK _ _ ⟨_, H2, ?_⟩ ?_); rotate_left 2; (exact r0); (focus (intro _; (simp [Act.eval, Value.cells, List.getD, cells_iV, iL_length, setL_i, setL_ii, agg_iL, oR_length]; done))); (focus ((try simp [Act.eval, Value.cells, List.getD, cells_iV, iL_length, setL_i, setL_ii, agg_iL, oR_length]); omega)); (exact rfl); (guard_target =~ Suf _ _; repeat first | exact .here | apply Suf.there); clear hK K; clear H; (try clear w2); revert w3; intro w2 H; (try simp [Act.eval, List.getD, cells_iV, iL_length, setL_i, setL_ii, agg_iL, oR_length] at H); (try simp [Value.cells, setL, cells_iV, iL_length, setL_i, setL_ii, agg_iL, oR_length] at H)) | (guard_target =~ Oper.wp _ (Oper.mk _ (.load _ _) _ _ _ _) _ _ _ _; (refine o_load (v := ?_) (r := ?_) rfl rfl H ?_ ?_ ?_ (hK _ _ ⟨_, H, by repeat first | exact .here | apply Suf.there⟩ ?_); rotate_left 2; (with_reducible assumption); (repeat first | exact .head _ | apply List.Mem.tail); (focus (intro _; simp [cells_iV, iL_length, setL_i, setL_ii, agg_iL, oR_length]; done))); clear hK K)); simp only [Act.put, List.setIfInBounds_toArray, List.set_cons_succ, List.set_cons_zero, cells_iV, iL_length, setL_i, setL_ii, agg_iL, oR_length]) | go_big_op) | (refine tree_one_skip ⟨_, H, by repeat first | exact .here | apply Suf.there⟩ rfl rfl ?_; simp only [List.getElem_toArray, List.getElem_cons_succ, List.getElem_cons_zero, Act.put, List.setIfInBounds_toArray, List.set_cons_succ, List.set_cons_zero])) | (refine tree_nil ?_; revert w2; exact key12.out) | (refine tree_nil ?_; replace H := H.swap; revert w2; exact key12.out) | (refine tree_nil ?_; replace H := H.swap1; revert w2; exact key12.out) | (refine tree_nil ?_; replace H := H.swap.swap1; revert w2; exact key12.out) | (refine tree_nil ?_; replace H := H.swap1.swap; revert w2; exact key12.out) | (refine tree_nil ?_; replace H := H.swap1.swap.swap1; revert w2; exact key12.out) | (guard_target =~ wpTree _ _ _ Tr.nil _ _ _; refine tree_nil ?_)))
        rw [or_plain _ _ (wordZ_Wd x _) (wordZ_Wd x _) t ht, ← HZ.out j, oR_set _ _ h0] at H
        go_roundg (3 - j)
        case rel => exact ⟨j + 1, by omega, by simp, H⟩
        case measure => omega
    · obtain rfl : j = 4 := by omega
      rw [oR_full] at H
      go_wp2_with (guard_target =~ wpList _ _ _ (_ :: _) _ _; (first | (guard_target =~ wpList _ _ _ (Oper.mk _ (.load _ _) _ _ _ _ :: _) _ _; refine BigFrame.wpList_want rfl (fun K hK => ?_); (refine o_loadNC (row := ?_) rfl rfl H ?_ ?_ ?_ (hK _ _ ?_); rotate_left 1; (repeat first | exact .head _ | apply List.Mem.tail); (focus (intro _; simp [cells_iV, iL_length, setL_i, setL_ii, agg_iL, oR_length]; done)); (focus (intro _; simp [cells_iV, iL_length, setL_i, setL_ii, agg_iL, oR_length]; done))); clear hK K) | (guard_target =~ wpList _ _ _ (Oper.mk _ (.store _ _ _) _ _ _ _ :: _) _ _; refine BigFrame.wpList_want rfl (fun K hK => ?_); refine o_store (l' := ?_) (row := ?_) rfl rfl H rfl ?_ ?_ ?_ ?_ (fun w3 H2 => hK _ _ ?_); rotate_left 2; (exact r2); (focus (intro _; (simp [Act.eval, List.getD, cells_iV, iL_length, setL_i, setL_ii, agg_iL, oR_length]; done))); (focus (simp [Act.eval, List.getD, cells_iV, iL_length, setL_i, setL_ii, agg_iL, oR_length]; done)); (exact rfl); clear hK K; clear H; (try clear w2); revert w3; intro w2 H; (try simp [Act.eval, List.getD, cells_iV, iL_length, setL_i, setL_ii, agg_iL, oR_length] at H); (try simp [Value.cells, setL, cells_iV, iL_length, setL_i, setL_ii, agg_iL, oR_length] at H))); simp only [Act.put, List.setIfInBounds_toArray, List.set_cons_succ, List.set_cons_zero, cells_iV, iL_length, setL_i, setL_ii, agg_iL, oR_length])
      have r4 := H.loadVarN (P := Try.prog) (ty := 24) m2 (by simp) (by simp [iL_length])
      exact bodyPost_ret (v := iV (x / 2 ^ m)) (by simp [results, Try.results46, asAddr, r4, agg_iL]) rfl ⟨rfl, H.below⟩
set_option maxRecDepth 100000 in
set_option maxHeartbeats 4000000 in
theorem Shr_big (x : Int) (hx : R256 x) (n : Int) (hn : 256 ≤ n) (m : Nat) (hm : m = 255) (w : World) :
    Calls Try.prog 46 #[iV x, .int .i64 n] w fun e w' => e = .returned (iV (x / 2 ^ m)) ∧ Below w.heap.size w w' := by
  have H := Own.start w
  have fp := fill_plain x hx
  unfold wordZ at fp
  simp only [show (18446744073709551616 : Int) ^ 3 = 6277101735386680763835789423207666416102355444464034512896 from rfl] at fp
  go_enter Try.func46, Try.ntmps46
  have tk0 : True := trivial
  have tk1 : True := trivial
  have tk2 : True := trivial
  have tk3 : True := trivial
  go_wp2_with (guard_target =~ wpList _ _ _ (_ :: _) _ _; (first | (guard_target =~ wpList _ _ _ (Oper.mk _ (.load _ _) _ _ _ _ :: _) _ _; refine BigFrame.wpList_want rfl (fun K hK => ?_); (refine o_loadC (v := ?_) (row := ?_) rfl rfl H ?_ ?_ ?_ (hK _ _ ?_); rotate_left 2; (repeat first | exact .head _ | apply List.Mem.tail); (exact rfl); (focus (intro _; simp [cells_iV, iL_length, setL_i, setL_ii, agg_iL, fp]; done))); clear hK K) | (guard_target =~ wpList _ _ _ (Oper.mk _ (.store _ _ _) _ _ _ _ :: _) _ _; refine BigFrame.wpList_want rfl (fun K hK => ?_); refine o_store (l' := ?_) (row := ?_) rfl rfl H rfl ?_ ?_ ?_ ?_ (fun w3 H2 => hK _ _ ?_); rotate_left 2; (exact r0); (focus (intro _; (simp [Act.eval, Value.cells, List.getD, cells_iV, iL_length, setL_i, setL_ii, agg_iL, fp]; done))); (focus (simp [Act.eval, Value.cells, List.getD, cells_iV, iL_length, setL_i, setL_ii, agg_iL, fp]; done)); (exact rfl); clear hK K; clear H; (try clear w2); revert w3; intro w2 H; (try simp [Act.eval, List.getD, cells_iV, iL_length, setL_i, setL_ii, agg_iL, fp] at H); (try simp [Value.cells, setL, cells_iV, iL_length, setL_i, setL_ii, agg_iL, fp] at H)) | ((first | (guard_target =~ wpList _ _ _ (Oper.mk _ (.alloc _) _ _ _ _ :: _) _ _; refine BigFrame.wpList_want rfl (fun K hK => ?_); refine o_alloc (z := ?_) rfl ?_ H rfl (fun w3 b2 he H2 => hK _ _ ?_); rotate_left 1; (focus (intro _; simp; with_reducible exact rfl))) | (guard_target =~ wpList _ _ _ (Oper.mk _ (.box _ _) _ _ _ _ :: _) _ _; refine BigFrame.wpList_want rfl (fun K hK => ?_); refine o_box rfl H rfl (fun w3 b2 he H2 => hK _ _ ?_))); clear hK K he; clear H; (try clear w2); revert w3; intro w2 H; (try simp [Act.eval, List.getD, cells_iV, iL_length, setL_i, setL_ii, agg_iL, fp] at H); (try simp [Value.cells, setL, cells_iV, iL_length, setL_i, setL_ii, agg_iL, fp] at H); (first | (clear tk0; rename Nat => c2) | (clear tk1; rename Nat => c4) | (clear tk2; rename Nat => c5) | (clear tk3; rename Nat => c6)))); simp only [Act.put, List.setIfInBounds_toArray, List.set_cons_succ, List.set_cons_zero, cells_iV, iL_length, setL_i, setL_ii, agg_iL, fp])
  have hz : ∀ j, wordZ (x / 2 ^ m) j = wordZ x (j + 3) / 2 ^ 63 + (wordZ x (j + 3 + 1) * 2 ^ (64 - 63)) % 18446744073709551616 := fun j => by rw [hm]; exact word_shift x 3 63 j (by decide)
  have HZ := Lib.hid hz
  clear hz
  go_loopg [19] 4 (ShrRel w x (x / 2 ^ m) c2 c4 c5 c6)
  case atStart => exact ⟨0, rfl, rfl, H⟩
  case round =>
    clear H
    obtain ⟨j, hj, rfl, H⟩ := hrel
    by_cases h0 : j < 4
    · have ld : (Res.cells c6 ((oR (x / 2 ^ m) j).set j (.int .u64 (wordZ x (j + 3) / 9223372036854775808)))).at c6 j [.int .u64 (wordZ x (j + 3) / 9223372036854775808)] := at_cells (by rw [List.getElem?_set_self (by rw [oR_length]; exact h0)])
      go_wp2_with (first
        | (guard_target =~ Code.wp _ (Code.region 12 _ true) _ _ _; refine region_tree 12 1 (G := ?_) (.q 0 (.q 1 (.q 3 (.q 4 (.q 5 (.q 6 (.q 7 (.q 8 (.q 10 (.q 11 (.q 12 (.both (.e 2 (.e 9 (.q 13 (.q 14 (.q 15 (.e 16 .nil)))))) (.e 9 (.q 13 (.e 2 (.q 14 (.q 15 (.e 16 .nil)))))))))))))))))) (by kernel_rfl) (by intro c a d v w h; cases d <;> exact h) (by kernel_rfl) H ?_ (fun key12 w3 H2 => ?_); rotate_left 2; (revert w3; intro w2 H); simp only [List.drop_succ_cons, List.drop_zero])
        | (guard_target =~ Key 12 _; refine ⟨?_⟩; intro w2 H)
        | (go_at_call 108; (with_reducible refine (word_any2 x hx (j + 3) (by omega) (↑j + 3) (by omega) H c5 c2 m1 m3).mono ?_); rintro e w3 ⟨rfl, rfl⟩; dsimp only; (skip))
        | (go_at_call 108; (with_reducible refine (word_any2 x hx (j + 3 + 1) (by omega) (↑j + 3 + 1) (by omega) H c5 c2 m1 m3).mono ?_); rintro e w3 ⟨rfl, rfl⟩; dsimp only; (refine hK _ _ ⟨_, H, by repeat first | exact .here | apply Suf.there⟩ ?_; clear hK K; (try simp only [Act.put, List.setIfInBounds_toArray, List.set_cons_succ, List.set_cons_zero, cells_iV, iL_length, setL_i, setL_ii, agg_iL, oR_length])))
        | (guard_target =~ wpList _ _ _ (_ :: _) _ _; (guard_target =~ wpList _ _ _ (Oper.mk _ (.store _ _ _) _ _ _ _ :: _) _ _; refine BigFrame.wpList_want rfl (fun K hK => ?_); refine o_store (l' := ?_) (row := ?_) rfl rfl H rfl ?_ ?_ ?_ ?_ (fun w3 H2 => hK _ _ ?_); rotate_left 2; (exact r0); (focus (intro _; (simp [Act.eval, Value.cells, List.getD, cells_iV, iL_length, setL_i, setL_ii, agg_iL, oR_length]; done))); (focus ((try simp [Act.eval, Value.cells, List.getD, cells_iV, iL_length, setL_i, setL_ii, agg_iL, oR_length]); omega)); (exact rfl); clear hK K; clear H; (try clear w2); revert w3; intro w2 H; (try simp [Act.eval, List.getD, cells_iV, iL_length, setL_i, setL_ii, agg_iL, oR_length] at H); (try simp [Value.cells, setL, cells_iV, iL_length, setL_i, setL_ii, agg_iL, oR_length] at H)); simp only [Act.put, List.setIfInBounds_toArray, List.set_cons_succ, List.set_cons_zero, cells_iV, iL_length, setL_i, setL_ii, agg_iL, oR_length])
        | (guard_target =~ wpTree _ _ _ _ _ _ _; first | (guard_target =~ wpTree _ _ _ (Tr.q _ _) _ _ _; first | (refine tree_quiet ⟨_, H, by repeat first | exact .here | apply Suf.there⟩ rfl rfl rfl (fun K hK => ?_); simp only [List.getElem_toArray, List.getElem_cons_succ, List.getElem_cons_zero]; first | (guard_target =~ Oper.quiet _ (Oper.mk _ (.load _ _) _ _ _ _) _ _ _; (first | fail); clear hK K; simp only [Act.put, List.setIfInBounds_toArray, List.set_cons_succ, List.set_cons_zero, cells_iV, iL_length, setL_i, setL_ii, agg_iL, oR_length]) | (go_big_quiet_op; (try refine ⟨_, fun _ _ => rfl, ?_⟩); refine hK _ ?_; clear hK K)) | (refine tree_skip ⟨_, H, by repeat first | exact .here | apply Suf.there⟩ rfl rfl ?_; simp only [List.getElem_toArray, List.getElem_cons_succ, List.getElem_cons_zero, Act.put, List.setIfInBounds_toArray, List.set_cons_succ, List.set_cons_zero])) | (guard_target =~ wpTree _ _ _ (Tr.both _ _) _ _ _; refine tree_both ?_ ?_) | (guard_target =~ wpTree _ _ _ (Tr.e _ _) _ _ _; first | (refine tree_one rfl rfl (fun K hK => ?_); simp only [List.getElem_toArray, List.getElem_cons_succ, List.getElem_cons_zero]; first | ((first | (guard_target =~ Oper.wp _ (Oper.mk _ (.store _ _ _) _ _ _ _) _ _ _ _; refine o_store (l' := ?_) (row := ?_) rfl rfl H rfl ?_ ?_ ?_ ?_ (fun w3 H2 => hK _ _ ⟨_, H2, ?_⟩ ?_); rotate_left 2; (exact r0); (focus (intro _; (simp [Act.eval, Value.cells, List.getD, cells_iV, iL_length, setL_i, setL_ii, agg_iL, oR_length]; done))); (focus ((try simp [Act.eval, Value.cells, List.getD, cells_iV, iL_length, setL_i, setL_ii, agg_iL, oR_length]); omega)); (exact rfl); (guard_target =~ Suf _ _; repeat first | exact .here | apply Suf.there); clear hK K; clear H; (try clear w2); revert w3; intro w2 H; (try simp [Act.eval, List.getD, cells_iV, iL_length, setL_i, setL_ii, agg_iL, oR_length] at H); (try simp [Value.cells, setL, cells_iV, iL_length, setL_i, setL_ii, agg_iL, oR_length] at H)) | (guard_target =~ Oper.wp _ (Oper.mk _ (.load _ _) _ _ _ _) _ _ _ _; (refine o_load (v := ?_) (r := ?_) rfl rfl H ?_ ?_ ?_ (hK _ _ ⟨_, H, by repeat first | exact .here | apply Suf.there⟩ ?_); rotate_left 2; (with_reducible assumption); (repeat first | exact .head _ | apply List.Mem.tail); (focus (intro _; simp [cells_iV, iL_length, setL_i, setL_ii, agg_iL, oR_length]; done))); clear hK K)); simp only [Act.put, List.setIfInBounds_toArray, List.set_cons_succ, List.set_cons_zero, cells_iV, iL_length, setL_i, setL_ii, agg_iL, oR_length]) | go_big_op) | (refine tree_one_skip ⟨_, H, by repeat first | exact .here | apply Suf.there⟩ rfl rfl ?_; simp only [List.getElem_toArray, List.getElem_cons_succ, List.getElem_cons_zero, Act.put, List.setIfInBounds_toArray, List.set_cons_succ, List.set_cons_zero])) | (refine tree_nil ?_; revert w2; exact key12.out) | (refine tree_nil ?_; replace H := H.swap; revert w2; exact key12.out) | (refine tree_nil ?_; replace H := H.swap1; revert w2; exact key12.out) | (refine tree_nil ?_; replace H := H.swap.swap1; revert w2; exact key12.out) | (refine tree_nil ?_; replace H := H.swap1.swap; revert w2; exact key12.out) | (refine tree_nil ?_; replace H := H.swap1.swap.swap1; revert w2; exact key12.out) | (guard_target =~ wpTree _ _ _ Tr.nil _ _ _; refine tree_nil ?_)))
      have op := or_plain (wordZ x (j + 3)) (wordZ x (j + 3 + 1)) (wordZ_Wd x _) (wordZ_Wd x _) 63 (by decide)
      have hzj := HZ.out j
      rw [show (2 : Int) ^ 63 = 9223372036854775808 from rfl, show (2 : Int) ^ (64 - 63) = 2 from rfl] at op hzj
      rw [op, ← hzj, oR_set _ _ h0] at H
      go_roundg (3 - j)
      case rel => exact ⟨j + 1, by omega, by simp, H⟩
      case measure => omega
    · obtain rfl : j = 4 := by omega
      rw [oR_full] at H
      go_wp2_with (guard_target =~ wpList _ _ _ (_ :: _) _ _; (first | (guard_target =~ wpList _ _ _ (Oper.mk _ (.load _ _) _ _ _ _ :: _) _ _; refine BigFrame.wpList_want rfl (fun K hK => ?_); (refine o_loadNC (row := ?_) rfl rfl H ?_ ?_ ?_ (hK _ _ ?_); rotate_left 1; (repeat first | exact .head _ | apply List.Mem.tail); (focus (intro _; simp [cells_iV, iL_length, setL_i, setL_ii, agg_iL, oR_length]; done)); (focus (intro _; simp [cells_iV, iL_length, setL_i, setL_ii, agg_iL, oR_length]; done))); clear hK K) | (guard_target =~ wpList _ _ _ (Oper.mk _ (.store _ _ _) _ _ _ _ :: _) _ _; refine BigFrame.wpList_want rfl (fun K hK => ?_); refine o_store (l' := ?_) (row := ?_) rfl rfl H rfl ?_ ?_ ?_ ?_ (fun w3 H2 => hK _ _ ?_); rotate_left 2; (exact r2); (focus (intro _; (simp [Act.eval, List.getD, cells_iV, iL_length, setL_i, setL_ii, agg_iL, oR_length]; done))); (focus (simp [Act.eval, List.getD, cells_iV, iL_length, setL_i, setL_ii, agg_iL, oR_length]; done)); (exact rfl); clear hK K; clear H; (try clear w2); revert w3; intro w2 H; (try simp [Act.eval, List.getD, cells_iV, iL_length, setL_i, setL_ii, agg_iL, oR_length] at H); (try simp [Value.cells, setL, cells_iV, iL_length, setL_i, setL_ii, agg_iL, oR_length] at H))); simp only [Act.put, List.setIfInBounds_toArray, List.set_cons_succ, List.set_cons_zero, cells_iV, iL_length, setL_i, setL_ii, agg_iL, oR_length])
      have r4 := H.loadVarN (P := Try.prog) (ty := 24) m2 (by simp) (by simp [iL_length])
      exact bodyPost_ret (v := iV (x / 2 ^ m)) (by simp [results, Try.results46, asAddr, r4, agg_iL]) rfl ⟨rfl, H.below⟩
set_option maxRecDepth 100000 in
set_option maxHeartbeats 4000000 in
theorem Shr_255 (x : Int) (hx : R256 x) (m : Nat) (hm : m = 255) (w : World) :
    Calls Try.prog 46 #[iV x, .int .i64 255] w fun e w' => e = .returned (iV (x / 2 ^ m)) ∧ Below w.heap.size w w' := by
  have H := Own.start w
  have fp := fill_plain x hx
  unfold wordZ at fp
  simp only [show (18446744073709551616 : Int) ^ 3 = 6277101735386680763835789423207666416102355444464034512896 from rfl] at fp
  go_enter Try.func46, Try.ntmps46
  have tk0 : True := trivial
  have tk1 : True := trivial
  have tk2 : True := trivial
  have tk3 : True := trivial
  go_wp2_with (guard_target =~ wpList _ _ _ (_ :: _) _ _; (first | (guard_target =~ wpList _ _ _ (Oper.mk _ (.load _ _) _ _ _ _ :: _) _ _; refine BigFrame.wpList_want rfl (fun K hK => ?_); (refine o_loadC (v := ?_) (row := ?_) rfl rfl H ?_ ?_ ?_ (hK _ _ ?_); rotate_left 2; (repeat first | exact .head _ | apply List.Mem.tail); (exact rfl); (focus (intro _; simp [cells_iV, iL_length, setL_i, setL_ii, agg_iL, fp]; done))); clear hK K) | (guard_target =~ wpList _ _ _ (Oper.mk _ (.store _ _ _) _ _ _ _ :: _) _ _; refine BigFrame.wpList_want rfl (fun K hK => ?_); refine o_store (l' := ?_) (row := ?_) rfl rfl H rfl ?_ ?_ ?_ ?_ (fun w3 H2 => hK _ _ ?_); rotate_left 2; (exact r0); (focus (intro _; (simp [Act.eval, Value.cells, List.getD, cells_iV, iL_length, setL_i, setL_ii, agg_iL, fp]; done))); (focus (simp [Act.eval, Value.cells, List.getD, cells_iV, iL_length, setL_i, setL_ii, agg_iL, fp]; done)); (exact rfl); clear hK K; clear H; (try clear w2); revert w3; intro w2 H; (try simp [Act.eval, List.getD, cells_iV, iL_length, setL_i, setL_ii, agg_iL, fp] at H); (try simp [Value.cells, setL, cells_iV, iL_length, setL_i, setL_ii, agg_iL, fp] at H)) | ((first | (guard_target =~ wpList _ _ _ (Oper.mk _ (.alloc _) _ _ _ _ :: _) _ _; refine BigFrame.wpList_want rfl (fun K hK => ?_); refine o_alloc (z := ?_) rfl ?_ H rfl (fun w3 b2 he H2 => hK _ _ ?_); rotate_left 1; (focus (intro _; simp; with_reducible exact rfl))) | (guard_target =~ wpList _ _ _ (Oper.mk _ (.box _ _) _ _ _ _ :: _) _ _; refine BigFrame.wpList_want rfl (fun K hK => ?_); refine o_box rfl H rfl (fun w3 b2 he H2 => hK _ _ ?_))); clear hK K he; clear H; (try clear w2); revert w3; intro w2 H; (try simp [Act.eval, List.getD, cells_iV, iL_length, setL_i, setL_ii, agg_iL, fp] at H); (try simp [Value.cells, setL, cells_iV, iL_length, setL_i, setL_ii, agg_iL, fp] at H); (first | (clear tk0; rename Nat => c2) | (clear tk1; rename Nat => c4) | (clear tk2; rename Nat => c5) | (clear tk3; rename Nat => c6)))); simp only [Act.put, List.setIfInBounds_toArray, List.set_cons_succ, List.set_cons_zero, cells_iV, iL_length, setL_i, setL_ii, agg_iL, fp])
  have hz : ∀ j, wordZ (x / 2 ^ m) j = wordZ x (j + 3) / 2 ^ 63 + (wordZ x (j + 3 + 1) * 2 ^ (64 - 63)) % 18446744073709551616 := fun j => by rw [hm]; exact word_shift x 3 63 j (by decide)
  have HZ := Lib.hid hz
  clear hz
  go_loopg [19] 4 (ShrRel w x (x / 2 ^ m) c2 c4 c5 c6)
  case atStart => exact ⟨0, rfl, rfl, H⟩
  case round =>
    clear H
    obtain ⟨j, hj, rfl, H⟩ := hrel
    by_cases h0 : j < 4
    · have ld : (Res.cells c6 ((oR (x / 2 ^ m) j).set j (.int .u64 (wordZ x (j + 3) / 9223372036854775808)))).at c6 j [.int .u64 (wordZ x (j + 3) / 9223372036854775808)] := at_cells (by rw [List.getElem?_set_self (by rw [oR_length]; exact h0)])
      go_wp2_with (first
        | (guard_target =~ Code.wp _ (Code.region 12 _ true) _ _ _; refine region_tree 12 1 (G := ?_) (.q 0 (.q 1 (.q 3 (.q 4 (.q 5 (.q 6 (.q 7 (.q 8 (.q 10 (.q 11 (.q 12 (.both (.e 2 (.e 9 (.q 13 (.q 14 (.q 15 (.e 16 .nil)))))) (.e 9 (.q 13 (.e 2 (.q 14 (.q 15 (.e 16 .nil)))))))))))))))))) (by kernel_rfl) (by intro c a d v w h; cases d <;> exact h) (by kernel_rfl) H ?_ (fun key12 w3 H2 => ?_); rotate_left 2; (revert w3; intro w2 H); simp only [List.drop_succ_cons, List.drop_zero])
        | (guard_target =~ Key 12 _; refine ⟨?_⟩; intro w2 H)
        | (go_at_call 108; (with_reducible refine (word_any2 x hx (j + 3) (by omega) (↑j + 3) (by omega) H c5 c2 m1 m3).mono ?_); rintro e w3 ⟨rfl, rfl⟩; dsimp only; (skip))
        | (go_at_call 108; (with_reducible refine (word_any2 x hx (j + 3 + 1) (by omega) (↑j + 3 + 1) (by omega) H c5 c2 m1 m3).mono ?_); rintro e w3 ⟨rfl, rfl⟩; dsimp only; (refine hK _ _ ⟨_, H, by repeat first | exact .here | apply Suf.there⟩ ?_; clear hK K; (try simp only [Act.put, List.setIfInBounds_toArray, List.set_cons_succ, List.set_cons_zero, cells_iV, iL_length, setL_i, setL_ii, agg_iL, oR_length])))
        | (guard_target =~ wpList _ _ _ (_ :: _) _ _; (guard_target =~ wpList _ _ _ (Oper.mk _ (.store _ _ _) _ _ _ _ :: _) _ _; refine BigFrame.wpList_want rfl (fun K hK => ?_); refine o_store (l' := ?_) (row := ?_) rfl rfl H rfl ?_ ?_ ?_ ?_ (fun w3 H2 => hK _ _ ?_); rotate_left 2; (exact r0); (focus (intro _; (simp [Act.eval, Value.cells, List.getD, cells_iV, iL_length, setL_i, setL_ii, agg_iL, oR_length]; done))); (focus ((try simp [Act.eval, Value.cells, List.getD, cells_iV, iL_length, setL_i, setL_ii, agg_iL, oR_length]); omega)); (exact rfl); clear hK K; clear H; (try clear w2); revert w3; intro w2 H; (try simp [Act.eval, List.getD, cells_iV, iL_length, setL_i, setL_ii, agg_iL, oR_length] at H); (try simp [Value.cells, setL, cells_iV, iL_length, setL_i, setL_ii, agg_iL, oR_length] at H)); simp only [Act.put, List.setIfInBounds_toArray, List.set_cons_succ, List.set_cons_zero, cells_iV, iL_length, setL_i, setL_ii, agg_iL, oR_length])
        | (guard_target =~ wpTree _ _ _ _ _ _ _; first | (guard_target =~ wpTree _ _ _ (Tr.q _ _) _ _ _; first | (refine tree_quiet ⟨_, H, by repeat first | exact .here | apply Suf.there⟩ rfl rfl rfl (fun K hK => ?_); simp only [List.getElem_toArray, List.getElem_cons_succ, List.getElem_cons_zero]; first | (guard_target =~ Oper.quiet _ (Oper.mk _ (.load _ _) _ _ _ _) _ _ _; (first | fail); clear hK K; simp only [Act.put, List.setIfInBounds_toArray, List.set_cons_succ, List.set_cons_zero, cells_iV, iL_length, setL_i, setL_ii, agg_iL, oR_length]) | (go_big_quiet_op; (try refine ⟨_, fun _ _ => rfl, ?_⟩); refine hK _ ?_; clear hK K)) | (refine tree_skip ⟨_, H, by repeat first | exact .here | apply Suf.there⟩ rfl rfl ?_; simp only [List.getElem_toArray, List.getElem_cons_succ, List.getElem_cons_zero, Act.put, List.setIfInBounds_toArray, List.set_cons_succ, List.set_cons_zero])) | (guard_target =~ wpTree _ _ _ (Tr.both _ _) _ _ _; refine tree_both ?_ ?_) | (guard_target =~ wpTree _ _ _ (Tr.e _ _) _ _ _; first | (refine tree_one rfl rfl (fun K hK => ?_); simp only [List.getElem_toArray, List.getElem_cons_succ, List.getElem_cons_zero]; first | ((first | (guard_target =~ Oper.wp _ (Oper.mk _ (.store _ _ _) _ _ _ _) _ _ _ _; refine o_store (l' := ?_) (row := ?_) rfl rfl H rfl ?_ ?_ ?_ ?_ (fun w3 H2 => hK _ _ ⟨_, H2, ?_⟩ ?_); rotate_left 2; (exact r0); (focus (intro _; (simp [Act.eval, Value.cells, List.getD, cells_iV, iL_length, setL_i, setL_ii, agg_iL, oR_length]; done))); (focus ((try simp [Act.eval, Value.cells, List.getD, cells_iV, iL_length, setL_i, setL_ii, agg_iL, oR_length]); omega)); (exact rfl); (guard_target =~ Suf _ _; repeat first | exact .here | apply Suf.there); clear hK K; clear H; (try clear w2); revert w3; intro w2 H; (try simp [Act.eval, List.getD, cells_iV, iL_length, setL_i, setL_ii, agg_iL, oR_length] at H); (try simp [Value.cells, setL, cells_iV, iL_length, setL_i, setL_ii, agg_iL, oR_length] at H)) | (guard_target =~ Oper.wp _ (Oper.mk _ (.load _ _) _ _ _ _) _ _ _ _; (refine o_load (v := ?_) (r := ?_) rfl rfl H ?_ ?_ ?_ (hK _ _ ⟨_, H, by repeat first | exact .here | apply Suf.there⟩ ?_); rotate_left 2; (with_reducible assumption); (repeat first | exact .head _ | apply List.Mem.tail); (focus (intro _; simp [cells_iV, iL_length, setL_i, setL_ii, agg_iL, oR_length]; done))); clear hK K)); simp only [Act.put, List.setIfInBounds_toArray, List.set_cons_succ, List.set_cons_zero, cells_iV, iL_length, setL_i, setL_ii, agg_iL, oR_length]) | go_big_op) | (refine tree_one_skip ⟨_, H, by repeat first | exact .here | apply Suf.there⟩ rfl rfl ?_; simp only [List.getElem_toArray, List.getElem_cons_succ, List.getElem_cons_zero, Act.put, List.setIfInBounds_toArray, List.set_cons_succ, List.set_cons_zero])) | (refine tree_nil ?_; revert w2; exact key12.out) | (refine tree_nil ?_; replace H := H.swap; revert w2; exact key12.out) | (refine tree_nil ?_; replace H := H.swap1; revert w2; exact key12.out) | (refine tree_nil ?_; replace H := H.swap.swap1; revert w2; exact key12.out) | (refine tree_nil ?_; replace H := H.swap1.swap; revert w2; exact key12.out) | (refine tree_nil ?_; replace H := H.swap1.swap.swap1; revert w2; exact key12.out) | (guard_target =~ wpTree _ _ _ Tr.nil _ _ _; refine tree_nil ?_)))
      have op := or_plain (wordZ x (j + 3)) (wordZ x (j + 3 + 1)) (wordZ_Wd x _) (wordZ_Wd x _) 63 (by decide)
      have hzj := HZ.out j
      rw [show (2 : Int) ^ 63 = 9223372036854775808 from rfl, show (2 : Int) ^ (64 - 63) = 2 from rfl] at op hzj
      rw [op, ← hzj, oR_set _ _ h0] at H
      go_roundg (3 - j)
      case rel => exact ⟨j + 1, by omega, by simp, H⟩
      case measure => omega
    · obtain rfl : j = 4 := by omega
      rw [oR_full] at H
      go_wp2_with (guard_target =~ wpList _ _ _ (_ :: _) _ _; (first | (guard_target =~ wpList _ _ _ (Oper.mk _ (.load _ _) _ _ _ _ :: _) _ _; refine BigFrame.wpList_want rfl (fun K hK => ?_); (refine o_loadNC (row := ?_) rfl rfl H ?_ ?_ ?_ (hK _ _ ?_); rotate_left 1; (repeat first | exact .head _ | apply List.Mem.tail); (focus (intro _; simp [cells_iV, iL_length, setL_i, setL_ii, agg_iL, oR_length]; done)); (focus (intro _; simp [cells_iV, iL_length, setL_i, setL_ii, agg_iL, oR_length]; done))); clear hK K) | (guard_target =~ wpList _ _ _ (Oper.mk _ (.store _ _ _) _ _ _ _ :: _) _ _; refine BigFrame.wpList_want rfl (fun K hK => ?_); refine o_store (l' := ?_) (row := ?_) rfl rfl H rfl ?_ ?_ ?_ ?_ (fun w3 H2 => hK _ _ ?_); rotate_left 2; (exact r2); (focus (intro _; (simp [Act.eval, List.getD, cells_iV, iL_length, setL_i, setL_ii, agg_iL, oR_length]; done))); (focus (simp [Act.eval, List.getD, cells_iV, iL_length, setL_i, setL_ii, agg_iL, oR_length]; done)); (exact rfl); clear hK K; clear H; (try clear w2); revert w3; intro w2 H; (try simp [Act.eval, List.getD, cells_iV, iL_length, setL_i, setL_ii, agg_iL, oR_length] at H); (try simp [Value.cells, setL, cells_iV, iL_length, setL_i, setL_ii, agg_iL, oR_length] at H))); simp only [Act.put, List.setIfInBounds_toArray, List.set_cons_succ, List.set_cons_zero, cells_iV, iL_length, setL_i, setL_ii, agg_iL, oR_length])
      have r4 := H.loadVarN (P := Try.prog) (ty := 24) m2 (by simp) (by simp [iL_length])
      exact bodyPost_ret (v := iV (x / 2 ^ m)) (by simp [results, Try.results46, asAddr, r4, agg_iL]) rfl ⟨rfl, H.below⟩
set_option maxRecDepth 100000 in
set_option maxHeartbeats 4000000 in
theorem Shr_low (x : Int) (n : Int) (hn : n < 1) (w : World) :
    Calls Try.prog 46 #[iV x, .int .i64 n] w fun e w' => e = .returned (iV x) ∧ Below w.heap.size w w' := by
  have H := Own.start w
  go_enter Try.func46, Try.ntmps46
  have tk0 : True := trivial
  have tk1 : True := trivial
  go_wp2_with (guard_target =~ wpList _ _ _ (_ :: _) _ _; (first | (guard_target =~ wpList _ _ _ (Oper.mk _ (.load _ _) _ _ _ _ :: _) _ _; refine BigFrame.wpList_want rfl (fun K hK => ?_); (refine o_loadNC (row := ?_) rfl rfl H ?_ ?_ ?_ (hK _ _ ?_); rotate_left 1; (repeat first | exact .head _ | apply List.Mem.tail); (focus (intro _; simp [cells_iV, iL_length, setL_i, setL_ii, agg_iL]; done)); (focus (intro _; simp [cells_iV, iL_length, setL_i, setL_ii, agg_iL]; done))); clear hK K) | (guard_target =~ wpList _ _ _ (Oper.mk _ (.store _ _ _) _ _ _ _ :: _) _ _; refine BigFrame.wpList_want rfl (fun K hK => ?_); refine o_store (l' := ?_) (row := ?_) rfl rfl H rfl ?_ ?_ ?_ ?_ (fun w3 H2 => hK _ _ ?_); rotate_left 2; (exact r0); (focus (intro _; (simp [Act.eval, List.getD, cells_iV, iL_length, setL_i, setL_ii, agg_iL]; done))); (focus (simp [Act.eval, List.getD, cells_iV, iL_length, setL_i, setL_ii, agg_iL]; done)); (exact rfl); clear hK K; clear H; (try clear w2); revert w3; intro w2 H; (try simp [Act.eval, List.getD, cells_iV, iL_length, setL_i, setL_ii, agg_iL] at H); (try simp [Value.cells, setL, cells_iV, iL_length, setL_i, setL_ii, agg_iL] at H)) | ((first | (guard_target =~ wpList _ _ _ (Oper.mk _ (.alloc _) _ _ _ _ :: _) _ _; refine BigFrame.wpList_want rfl (fun K hK => ?_); refine o_alloc (z := ?_) rfl ?_ H rfl (fun w3 b2 he H2 => hK _ _ ?_); rotate_left 1; (focus (intro _; simp; with_reducible exact rfl))) | (guard_target =~ wpList _ _ _ (Oper.mk _ (.box _ _) _ _ _ _ :: _) _ _; refine BigFrame.wpList_want rfl (fun K hK => ?_); refine o_box rfl H rfl (fun w3 b2 he H2 => hK _ _ ?_))); clear hK K he; clear H; (try clear w2); revert w3; intro w2 H; (try simp [Act.eval, List.getD, cells_iV, iL_length, setL_i, setL_ii, agg_iL] at H); (try simp [Value.cells, setL, cells_iV, iL_length, setL_i, setL_ii, agg_iL] at H); (first | (clear tk0; rename Nat => c2) | (clear tk1; rename Nat => c4)))); simp only [Act.put, List.setIfInBounds_toArray, List.set_cons_succ, List.set_cons_zero, cells_iV, iL_length, setL_i, setL_ii, agg_iL])
  have r4 := H.loadVarN (P := Try.prog) (ty := 24) m0 (by simp) (by simp [iL_length])
  exact bodyPost_ret (v := iV x) (by simp [results, Try.results46, asAddr, r4, agg_iL]) rfl ⟨rfl, H.below⟩
/-- What Shr answers. -/
def shrZ (x n : Int) : Int := if n < 1 then x else x / 2 ^ (min n 255).toNat
theorem Shr_any (x : Int) (hx : R256 x) (n : Int) (w : World) :
    Calls Try.prog 46 #[iV x, .int .i64 n] w fun e w' => e = .returned (iV (shrZ x n)) ∧ Below w.heap.size w w' := by
  unfold shrZ
  by_cases h1 : n < 1
  · rw [if_pos h1]; exact Shr_low x n h1 w
  · rw [if_neg h1]
    by_cases h2 : n < 255
    · obtain ⟨m, rfl⟩ : ∃ m : Nat, n = (m : Int) := ⟨n.toNat, by omega⟩
      have e : (min (m : Int) 255).toNat = m := by omega
      rw [e]
      exact Shr_pos x hx m (by omega) (by omega) w
    · have e : (min n 255).toNat = 255 := by omega
      rw [e]
      by_cases h3 : n = 255
      · subst h3; exact Shr_255 x hx 255 rfl w
      · exact Shr_big x hx n (by omega) 255 rfl w
end Go.Proofs.Ytdgpdafkngoegaa
