/-
  The walks of layer 3 (wide): up, Shl.
-/
import Derived.Test.YtdgpdafkngoegaaWide13
namespace Go.Proofs.Ytdgpdafkngoegaa
set_option linter.unusedVariables false
set_option linter.unusedSimpArgs false
open Go.RowKit

theorem or_plain2 (q r : Int) (hq : Wd q) (hr : Wd r) (t : Nat) (ht0 : 0 < t) (ht : t < 64) : bits .or .u64 (IntKind.u64.wrap (r * 2 ^ t)) (q / 2 ^ (64 - t)) = q / 2 ^ (64 - t) + (r * 2 ^ t) % 18446744073709551616 := by
  have e := or_plain q r hq hr (64 - t) (by omega)
  rw [show 64 - (64 - t) = t by omega] at e
  rw [← e]
  unfold Wd at hq hr
  have a0 := Int.emod_nonneg (r * 2 ^ t) (show (18446744073709551616 : Int) ≠ 0 by decide)
  have a1 := Int.emod_lt_of_pos (r * 2 ^ t) (show (0 : Int) < 18446744073709551616 by decide)
  have b0 : 0 ≤ q / 2 ^ (64 - t) := Int.ediv_nonneg (by omega) (Int.pow_nonneg (by decide))
  have b1 : q / 2 ^ (64 - t) ≤ q := Int.ediv_le_self _ (by omega)
  rw [IntKind.wrap_u64]
  generalize r * 2 ^ t % 18446744073709551616 = A at *
  generalize q / 2 ^ (64 - t) = B at *
  obtain ⟨a, rfl⟩ : ∃ a : Nat, A = (a : Int) := ⟨A.toNat, by omega⟩
  obtain ⟨b, rfl⟩ : ∃ b : Nat, B = (b : Int) := ⟨B.toNat, by omega⟩
  rw [u64_or_nat _ _ (by omega) (by omega), u64_or_nat _ _ (by omega) (by omega), Nat.or_comm]
/-- A word of what is moved up: the bottom word. -/
theorem word_up0 (x : Int) (d t : Nat) (ht : t < 64) : wordZ (x * 2 ^ (64 * d + t)) d = (wordZ x 0 * 2 ^ t) % 18446744073709551616 := by
  have p1 : (18446744073709551616 : Int) ^ d ≠ 0 := Int.ne_of_gt (Int.pow_pos (by decide))
  unfold wordZ
  rw [pow_64, Int.mul_comm (18446744073709551616 ^ d), ← Int.mul_assoc, Int.mul_ediv_cancel _ p1, Int.pow_zero, Int.ediv_one]
  conv => lhs; rw [Int.mul_emod]
  conv => rhs; rw [Int.mul_emod, Int.emod_emod_of_dvd _ (Int.dvd_refl _)]
theorem word_up (x : Int) (d t k : Nat) (ht : t < 64) : wordZ (x * 2 ^ (64 * d + t)) (d + k + 1) = wordZ x k / 2 ^ (64 - t) + (wordZ x (k + 1) * 2 ^ t) % 18446744073709551616 := by
  have p1 : (0 : Int) < 18446744073709551616 ^ d := Int.pow_pos (by decide)
  have p2 : (0 : Int) < 2 ^ t := Int.pow_pos (by decide)
  have p3 : (0 : Int) < 2 ^ (64 - t) := Int.pow_pos (by decide)
  have p4 : (0 : Int) < 18446744073709551616 ^ k := Int.pow_pos (by decide)
  have e := shift_gen (x / 18446744073709551616 ^ k) (2 ^ (64 - t)) (2 ^ t) p3 p2
  rw [Int.mul_comm (2 ^ (64 - t)), pow_split t (by omega)] at e
  have e1 : (18446744073709551616 : Int) ^ (d + k + 1) = (18446744073709551616 ^ k * 2 ^ (64 - t)) * (18446744073709551616 ^ d * 2 ^ t) := by
    have g := pow_split t (by omega)
    rw [Int.pow_succ, Int.pow_add]
    generalize (18446744073709551616 : Int) ^ d = D
    generalize (18446744073709551616 : Int) ^ k = K
    rw [← g]
    simp only [Int.mul_assoc, Int.mul_comm, Int.mul_left_comm]
  have e2 : x / (18446744073709551616 : Int) ^ (k + 1) = x / 18446744073709551616 ^ k / 18446744073709551616 := by
    rw [Int.pow_succ, Int.ediv_ediv_of_nonneg (Int.pow_nonneg (by decide))]
  unfold wordZ
  rw [pow_64, e1, Int.mul_ediv_mul_of_pos_left _ _ (Int.mul_pos p1 p2), ← Int.ediv_ediv_of_nonneg (Int.le_of_lt p4), e, e2]
theorem word_low (x : Int) (d t q : Nat) (h : q < d) : wordZ (x * 2 ^ (64 * d + t)) q = 0 := by
  have p1 : (18446744073709551616 : Int) ^ q ≠ 0 := Int.ne_of_gt (Int.pow_pos (by decide))
  unfold wordZ
  obtain ⟨e, rfl⟩ : ∃ e, d = q + 1 + e := ⟨d - (q + 1), by omega⟩
  rw [pow_64, Int.pow_add, Int.pow_succ]
  have : x * (18446744073709551616 ^ q * 18446744073709551616 * 18446744073709551616 ^ e * 2 ^ t) = (x * 18446744073709551616 ^ e * 2 ^ t * 18446744073709551616) * 18446744073709551616 ^ q := by
    simp only [Int.mul_assoc, Int.mul_comm, Int.mul_left_comm]
  rw [this, Int.mul_ediv_cancel _ p1, Int.mul_emod_left]
/-- The words of z from the e-th on, noughts below them. -/
def uR (z : Int) (e : Nat) : List Value := (List.range 4).map fun q => Value.int .u64 (if e ≤ q then wordZ z q else 0)
theorem uR_zero (z : Int) : uR z 4 = [.int .u64 0, .int .u64 0, .int .u64 0, .int .u64 0] := rfl
theorem uR_length (z : Int) (j : Nat) : (uR z j).length = 4 := by simp [uR]
theorem uR_set (z : Int) (j : Nat) (h : j < 4) : (uR z (j + 1)).set j (.int .u64 (wordZ z j)) = uR z j := by
  unfold uR
  match j, h with
  | 0, _ => rfl
  | 1, _ => rfl
  | 2, _ => rfl
  | 3, _ => rfl
theorem uR_full (x : Int) (d t : Nat) (hd : d ≤ 3) : uR (x * 2 ^ (64 * d + t)) d = iL (x * 2 ^ (64 * d + t)) := by
  have h := word_low x d t
  generalize x * 2 ^ (64 * d + t) = z at *
  have e : iL z = (List.range 4).map fun q => Value.int .u64 (wordZ z q) := by
    unfold iL wordZ
    simp [List.range_succ]
  rw [e]
  unfold uR
  apply List.map_congr_left
  intro q hq
  split
  · rfl
  · rw [h q (by omega)]
def UpRel (w : World) (x z : Int) (d : Nat) (c2 c4 c5 : Nat) (k : Nat) (i : Value) (wr : World) : Prop :=
  d + k ≤ 4 ∧ i = .int .i64 ((d : Int) + (k : Int) - 1) ∧ Own w.heap.size w wr [.cells c5 (uR z (d + k)), .cells c4 [.int .u64 0, .int .u64 0, .int .u64 0, .int .u64 0], .cells c2 (iL x)]
set_option maxRecDepth 100000 in
set_option maxHeartbeats 4000000 in
theorem up_any (x : Int) (m d t : Nat) (hd : d ≤ 3) (ht : t < 64) (hdt : m = 64 * d + t) (w : World) :
    Calls Try.prog 107 #[iV x, .int .i64 (m : Int)] w fun e w' => e = .returned (iV (x * 2 ^ m)) ∧ Below w.heap.size w w' := by
  have H := Own.start w
  go_enter Try.func107, Try.ntmps107
  have tk0 : True := trivial
  have tk1 : True := trivial
  have tk2 : True := trivial
  go_wp2_with (guard_target =~ wpList _ _ _ (_ :: _) _ _; ((first | (guard_target =~ wpList _ _ _ (Oper.mk _ (.alloc _) _ _ _ _ :: _) _ _; refine BigFrame.wpList_want rfl (fun K hK => ?_); refine o_alloc (z := ?_) rfl ?_ H rfl (fun w3 b2 he H2 => hK _ _ ?_); rotate_left 1; (focus (intro _; simp; with_reducible exact rfl))) | (guard_target =~ wpList _ _ _ (Oper.mk _ (.box _ _) _ _ _ _ :: _) _ _; refine BigFrame.wpList_want rfl (fun K hK => ?_); refine o_box rfl H rfl (fun w3 b2 he H2 => hK _ _ ?_))); clear hK K he; clear H; (try clear w2); revert w3; intro w2 H; (try simp [Act.eval, List.getD, cells_iV, iL_length, setL_i, setL_ii, agg_iL] at H); (try simp [Value.cells, setL, cells_iV, iL_length, setL_i, setL_ii, agg_iL] at H); (first | (clear tk0; rename Nat => c2) | (clear tk1; rename Nat => c4) | (clear tk2; rename Nat => c5))); simp only [Act.put, List.setIfInBounds_toArray, List.set_cons_succ, List.set_cons_zero, cells_iV, iL_length, setL_i, setL_ii, agg_iL])
  have ed : (m : Int) / 64 = (d : Int) := by omega
  have et : (m : Int) % 64 = (t : Int) := by omega
  have hf := uR_full x d t hd
  have hz0 := word_up0 x d t ht
  have hz1 := fun k => word_up x d t k ht
  rw [← hdt] at hf hz0 hz1
  have HZ0 := Lib.hid hz0
  have HZ1 := Lib.hid hz1
  have HF := Lib.hid hf
  have HD := Lib.hid hdt
  clear hz0 hz1 hf hdt
  go_loopg [6] (4 - d) (UpRel w x (x * 2 ^ m) d c2 c4 c5)
  case atStart => exact ⟨by omega, by congr 1 <;> omega, by rw [show d + (4 - d) = 4 by omega]; exact H⟩
  case round =>
    clear H
    obtain ⟨hk, rfl, H⟩ := hrel
    by_cases h0 : 1 ≤ gk
    · obtain ⟨k, rfl⟩ : ∃ k, gk = k + 1 := ⟨gk - 1, by omega⟩
      have ei : (d : Int) + ((k + 1 : Nat) : Int) - 1 = ((d + k : Nat) : Int) := by omega
      rw [ei] at *
      have ej : ((d + k : Nat) : Int) - (d : Int) = (k : Int) := by omega
      have ld : (Res.cells c2 (iL x)).at c2 k [.int .u64 (wordZ x k)] := at_cells (iL_get x k (by omega))
      have m2 : Res.cells c2 (iL x) ∈ [Res.cells c5 (uR (x * 2 ^ m) (d + (k + 1))), .cells c4 [.int .u64 0, .int .u64 0, .int .u64 0, .int .u64 0], .cells c2 (iL x)] := by simp
      have k2 : wr.cell? ⟨c2, k, none⟩ = some (.int .u64 (wordZ x k)) := by simpa using H.range m2 ld 0 _ rfl
      clear m2
      by_cases ht0 : 0 < t
      · by_cases hk0 : 0 < k
        · obtain ⟨q, rfl⟩ : ∃ q, k = q + 1 := ⟨k - 1, by omega⟩
          have ld2 : (Res.cells c2 (iL x)).at c2 q [.int .u64 (wordZ x q)] := at_cells (iL_get x q (by omega))
          have ld3 : (Res.cells c5 ((uR (x * 2 ^ m) (d + (q + 1 + 1))).set (d + (q + 1)) (.int .u64 (IntKind.u64.wrap (wordZ x (q + 1) * 2 ^ t))))).at c5 (d + (q + 1)) [.int .u64 (IntKind.u64.wrap (wordZ x (q + 1) * 2 ^ t))] := at_cells (by rw [List.getElem?_set_self (by rw [uR_length]; omega)])
          go_wp2_with (first
            | (guard_target =~ Code.wp _ (Code.region 7 _ true) _ _ _; refine region_tree 7 1 (G := ?_) (.q 0 (.q 1 (.q 3 (.q 4 (.q 5 (.q 6 (.q 7 (.q 8 (.q 9 (.q 10 (.q 11 (.q 12 (.q 13 (.e 2 (.q 14 (.q 15 (.e 16 .nil))))))))))))))))) (by kernel_rfl) (by intro c a d v w h; cases d <;> exact h) (by kernel_rfl) H ?_ (fun key7 w3 H2 => ?_); rotate_left 2; (revert w3; intro w2 H); simp only [List.drop_succ_cons, List.drop_zero])
            | (guard_target =~ Key 7 _; refine ⟨?_⟩; intro w2 H)
            | (guard_target =~ wpList _ _ _ (_ :: _) _ _; (guard_target =~ wpList _ _ _ (Oper.mk _ (.store _ _ _) _ _ _ _ :: _) _ _; refine BigFrame.wpList_want rfl (fun K hK => ?_); refine o_store (l' := ?_) (row := ?_) rfl rfl H rfl ?_ ?_ ?_ ?_ (fun w3 H2 => hK _ _ ?_); rotate_left 2; (exact r0); (focus (intro _; (simp [Act.eval, Value.cells, List.getD, cells_iV, iL_length, setL_i, setL_ii, agg_iL, uR_length, ej]; done))); (focus ((try simp [Act.eval, Value.cells, List.getD, cells_iV, iL_length, setL_i, setL_ii, agg_iL, uR_length, ej]); omega)); (exact rfl); clear hK K; clear H; (try clear w2); revert w3; intro w2 H; (try simp [Act.eval, List.getD, cells_iV, iL_length, setL_i, setL_ii, agg_iL, uR_length, ej] at H); (try simp [Value.cells, setL, cells_iV, iL_length, setL_i, setL_ii, agg_iL, uR_length, ej] at H)); simp only [Act.put, List.setIfInBounds_toArray, List.set_cons_succ, List.set_cons_zero, cells_iV, iL_length, setL_i, setL_ii, agg_iL, uR_length, ej])
            | (guard_target =~ wpTree _ _ _ _ _ _ _; first | (guard_target =~ wpTree _ _ _ (Tr.q _ _) _ _ _; first | (refine tree_quiet ⟨_, H, by repeat first | exact .here | apply Suf.there⟩ rfl rfl rfl (fun K hK => ?_); simp only [List.getElem_toArray, List.getElem_cons_succ, List.getElem_cons_zero]; first | (guard_target =~ Oper.quiet _ (Oper.mk _ (.load _ _) _ _ _ _) _ _ _; (refine q_load (v := ?_) (r := ?_) rfl rfl ?_ ?_ ?_ (hK _ ?_); rotate_left 2; (with_reducible assumption); (repeat first | exact .head _ | apply List.Mem.tail); (focus (intro _; simp [cells_iV, iL_length, setL_i, setL_ii, agg_iL, uR_length, ej]; done))); clear hK K; simp only [Act.put, List.setIfInBounds_toArray, List.set_cons_succ, List.set_cons_zero, cells_iV, iL_length, setL_i, setL_ii, agg_iL, uR_length, ej]) | (go_big_quiet_op; (try refine ⟨_, fun _ _ => rfl, ?_⟩); refine hK _ ?_; clear hK K)) | (refine tree_skip ⟨_, H, by repeat first | exact .here | apply Suf.there⟩ rfl rfl ?_; simp only [List.getElem_toArray, List.getElem_cons_succ, List.getElem_cons_zero, Act.put, List.setIfInBounds_toArray, List.set_cons_succ, List.set_cons_zero])) | (guard_target =~ wpTree _ _ _ (Tr.both _ _) _ _ _; refine tree_both ?_ ?_) | (guard_target =~ wpTree _ _ _ (Tr.e _ _) _ _ _; first | (refine tree_one rfl rfl (fun K hK => ?_); simp only [List.getElem_toArray, List.getElem_cons_succ, List.getElem_cons_zero]; first | ((first | (guard_target =~ Oper.wp _ (Oper.mk _ (.store _ _ _) _ _ _ _) _ _ _ _; refine o_store (l' := ?_) (row := ?_) rfl rfl H rfl ?_ ?_ ?_ ?_ (fun w3 H2 => hK _ _ ⟨_, H2, ?_⟩ ?_); rotate_left 2; (exact r0); (focus (intro _; (simp [Act.eval, Value.cells, List.getD, cells_iV, iL_length, setL_i, setL_ii, agg_iL, uR_length, ej]; done))); (focus ((try simp [Act.eval, Value.cells, List.getD, cells_iV, iL_length, setL_i, setL_ii, agg_iL, uR_length, ej]); omega)); (exact rfl); (guard_target =~ Suf _ _; repeat first | exact .here | apply Suf.there); clear hK K; clear H; (try clear w2); revert w3; intro w2 H; (try simp [Act.eval, List.getD, cells_iV, iL_length, setL_i, setL_ii, agg_iL, uR_length, ej] at H); (try simp [Value.cells, setL, cells_iV, iL_length, setL_i, setL_ii, agg_iL, uR_length, ej] at H)) | (guard_target =~ Oper.wp _ (Oper.mk _ (.load _ _) _ _ _ _) _ _ _ _; (refine o_load (v := ?_) (r := ?_) rfl rfl H ?_ ?_ ?_ (hK _ _ ⟨_, H, by repeat first | exact .here | apply Suf.there⟩ ?_); rotate_left 2; (with_reducible assumption); (repeat first | exact .head _ | apply List.Mem.tail); (focus (intro _; simp [cells_iV, iL_length, setL_i, setL_ii, agg_iL, uR_length, ej]; done))); clear hK K)); simp only [Act.put, List.setIfInBounds_toArray, List.set_cons_succ, List.set_cons_zero, cells_iV, iL_length, setL_i, setL_ii, agg_iL, uR_length, ej]) | go_big_op) | (refine tree_one_skip ⟨_, H, by repeat first | exact .here | apply Suf.there⟩ rfl rfl ?_; simp only [List.getElem_toArray, List.getElem_cons_succ, List.getElem_cons_zero, Act.put, List.setIfInBounds_toArray, List.set_cons_succ, List.set_cons_zero])) | (refine tree_nil ?_; revert w2; exact key7.out) | (refine tree_nil ?_; replace H := H.swap; revert w2; exact key7.out) | (refine tree_nil ?_; replace H := H.swap1; revert w2; exact key7.out) | (refine tree_nil ?_; replace H := H.swap.swap1; revert w2; exact key7.out) | (refine tree_nil ?_; replace H := H.swap1.swap; revert w2; exact key7.out) | (refine tree_nil ?_; replace H := H.swap1.swap.swap1; revert w2; exact key7.out) | (guard_target =~ wpTree _ _ _ Tr.nil _ _ _; refine tree_nil ?_)))
          rw [or_plain2 _ _ (wordZ_Wd x _) (wordZ_Wd x _) t ht0 ht, ← HZ1.out q] at H
          go_roundg (q + 1)
          case rel =>
            refine ⟨by omega, by congr 1 <;> omega, ?_⟩
            have e := uR_set (x * 2 ^ m) (d + (q + 1)) (by omega)
            rw [← e]
            exact H
          case measure => omega
        · obtain rfl : k = 0 := by omega
          go_wp2_with (guard_target =~ wpList _ _ _ (_ :: _) _ _; (first | (guard_target =~ wpList _ _ _ (Oper.mk _ (.load _ _) _ _ _ _ :: _) _ _; refine BigFrame.wpList_want rfl (fun K hK => ?_); (refine o_load (v := ?_) (r := ?_) rfl rfl H ?_ ?_ ?_ (hK _ _ ?_); rotate_left 2; (with_reducible assumption); (repeat first | exact .head _ | apply List.Mem.tail); (focus (intro _; simp [cells_iV, iL_length, setL_i, setL_ii, agg_iL, uR_length, ej]; done))); clear hK K) | (guard_target =~ wpList _ _ _ (Oper.mk _ (.store _ _ _) _ _ _ _ :: _) _ _; refine BigFrame.wpList_want rfl (fun K hK => ?_); refine o_store (l' := ?_) (row := ?_) rfl rfl H rfl ?_ ?_ ?_ ?_ (fun w3 H2 => hK _ _ ?_); rotate_left 2; (exact r0); (focus (intro _; (simp [Act.eval, Value.cells, List.getD, cells_iV, iL_length, setL_i, setL_ii, agg_iL, uR_length, ej]; done))); (focus ((try simp [Act.eval, Value.cells, List.getD, cells_iV, iL_length, setL_i, setL_ii, agg_iL, uR_length, ej]); omega)); (exact rfl); clear hK K; clear H; (try clear w2); revert w3; intro w2 H; (try simp [Act.eval, List.getD, cells_iV, iL_length, setL_i, setL_ii, agg_iL, uR_length, ej] at H); (try simp [Value.cells, setL, cells_iV, iL_length, setL_i, setL_ii, agg_iL, uR_length, ej] at H))); simp only [Act.put, List.setIfInBounds_toArray, List.set_cons_succ, List.set_cons_zero, cells_iV, iL_length, setL_i, setL_ii, agg_iL, uR_length, ej])
          rw [IntKind.wrap_u64, ← HZ0.out] at H
          go_roundg 0
          case rel =>
            refine ⟨by omega, by congr 1 <;> omega, ?_⟩
            have e := uR_set (x * 2 ^ m) d (by omega)
            rw [Nat.add_zero, ← e]
            exact H
          case measure => omega
      · obtain rfl : t = 0 := by omega
        have ez : IntKind.u64.wrap (wordZ x k) = wordZ (x * 2 ^ m) (d + k) := by
          rw [IntKind.wrap_u64]
          by_cases hk0 : k = 0
          · subst hk0
            rw [Nat.add_zero, HZ0.out, Int.pow_zero, Int.mul_one]
          · obtain ⟨q, rfl⟩ : ∃ q, k = q + 1 := ⟨k - 1, by omega⟩
            have hw := wordZ_Wd x q
            unfold Wd at hw
            have e := HZ1.out q
            have f : wordZ x q / 2 ^ (64 - 0) = 0 := Int.ediv_eq_zero_of_lt (by omega) (by rw [show (2 : Int) ^ (64 - 0) = 18446744073709551616 from rfl]; omega)
            rw [f, Int.pow_zero, Int.mul_one, Int.zero_add] at e
            rw [← e]; rfl
        go_wp2_with (guard_target =~ wpList _ _ _ (_ :: _) _ _; (guard_target =~ wpList _ _ _ (Oper.mk _ (.store _ _ _) _ _ _ _ :: _) _ _; refine BigFrame.wpList_want rfl (fun K hK => ?_); refine o_store (l' := ?_) (row := ?_) rfl rfl H rfl ?_ ?_ ?_ ?_ (fun w3 H2 => hK _ _ ?_); rotate_left 2; (exact r0); (focus (intro _; (simp [Act.eval, Value.cells, List.getD, cells_iV, iL_length, setL_i, setL_ii, agg_iL, uR_length, ej]; done))); (focus ((try simp [Act.eval, Value.cells, List.getD, cells_iV, iL_length, setL_i, setL_ii, agg_iL, uR_length, ej]); omega)); (exact rfl); clear hK K; clear H; (try clear w2); revert w3; intro w2 H; (try simp [Act.eval, List.getD, cells_iV, iL_length, setL_i, setL_ii, agg_iL, uR_length, ej] at H); (try simp [Value.cells, setL, cells_iV, iL_length, setL_i, setL_ii, agg_iL, uR_length, ej] at H)); simp only [Act.put, List.setIfInBounds_toArray, List.set_cons_succ, List.set_cons_zero, cells_iV, iL_length, setL_i, setL_ii, agg_iL, uR_length, ej])
        go_roundg k
        case rel =>
          refine ⟨by omega, by congr 1 <;> omega, ?_⟩
          have e := uR_set (x * 2 ^ m) (d + k) (by omega)
          rw [← e]
          exact H
        case measure => omega
    · obtain rfl : gk = 0 := by omega
      rw [Nat.add_zero, HF.out] at H
      go_wp2_with (guard_target =~ wpList _ _ _ (_ :: _) _ _; (first | (guard_target =~ wpList _ _ _ (Oper.mk _ (.load _ _) _ _ _ _ :: _) _ _; refine BigFrame.wpList_want rfl (fun K hK => ?_); (refine o_loadNC (row := ?_) rfl rfl H ?_ ?_ ?_ (hK _ _ ?_); rotate_left 1; (repeat first | exact .head _ | apply List.Mem.tail); (focus (intro _; simp [cells_iV, iL_length, setL_i, setL_ii, agg_iL, oR_length]; done)); (focus (intro _; simp [cells_iV, iL_length, setL_i, setL_ii, agg_iL, oR_length]; done))); clear hK K) | (guard_target =~ wpList _ _ _ (Oper.mk _ (.store _ _ _) _ _ _ _ :: _) _ _; refine BigFrame.wpList_want rfl (fun K hK => ?_); refine o_store (l' := ?_) (row := ?_) rfl rfl H rfl ?_ ?_ ?_ ?_ (fun w3 H2 => hK _ _ ?_); rotate_left 2; (exact r1); (focus (intro _; (simp [Act.eval, List.getD, cells_iV, iL_length, setL_i, setL_ii, agg_iL, oR_length]; done))); (focus (simp [Act.eval, List.getD, cells_iV, iL_length, setL_i, setL_ii, agg_iL, oR_length]; done)); (exact rfl); clear hK K; clear H; (try clear w2); revert w3; intro w2 H; (try simp [Act.eval, List.getD, cells_iV, iL_length, setL_i, setL_ii, agg_iL, oR_length] at H); (try simp [Value.cells, setL, cells_iV, iL_length, setL_i, setL_ii, agg_iL, oR_length] at H))); simp only [Act.put, List.setIfInBounds_toArray, List.set_cons_succ, List.set_cons_zero, cells_iV, iL_length, setL_i, setL_ii, agg_iL, oR_length])
      have r4 := H.loadVarN (P := Try.prog) (ty := 24) m1 (by simp) (by simp [iL_length])
      exact bodyPost_ret (v := iV (x * 2 ^ m)) (by simp [results, Try.results107, asAddr, r4, agg_iL]) rfl ⟨rfl, H.below⟩
end Go.Proofs.Ytdgpdafkngoegaa
