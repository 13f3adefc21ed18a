/-
  The walk of slices.Reverse at bytes; layer 3 (wide): Text.
-/
import Derived.Test.YtmmieilogpmocaaWide19
import Derived.Test.YtmmieilogpmocaaOwn6
namespace Go.Proofs.Ytmmieilogpmocaa
set_option linter.unusedVariables false
set_option linter.unusedSimpArgs false
open Go.RowKit

/-- The bytes, when k of them have been exchanged at both ends. -/
def revB (xs : List UInt8) (k : Nat) : List UInt8 := (List.range xs.length).map fun p => if p < k ∨ xs.length ≤ p + k then xs.getD (xs.length - 1 - p) 0 else xs.getD p 0
theorem revB_length (xs : List UInt8) (k : Nat) : (revB xs k).length = xs.length := by simp [revB]
theorem revB_get (xs : List UInt8) (k p : Nat) (h : p < xs.length) : (revB xs k).getD p 0 = if p < k ∨ xs.length ≤ p + k then xs.getD (xs.length - 1 - p) 0 else xs.getD p 0 := by
  unfold revB
  rw [List.getD_eq_getElem?_getD]
  simp only [List.getElem?_map, List.getElem?_range h, Option.map_some, Option.getD_some]
theorem revB_zero (xs : List UInt8) : revB xs 0 = xs := by
  apply List.ext_getElem?
  intro p
  by_cases h : p < xs.length
  · simp [revB, h, Nat.not_le.2 h]
  · simp [revB, h]
theorem revB_full (xs : List UInt8) (k : Nat) (h : xs.length ≤ 2 * k + 1) : revB xs k = xs.reverse := by
  apply List.ext_getElem?
  intro p
  by_cases hp : p < xs.length
  · unfold revB
    simp only [List.getElem?_map, List.getElem?_range hp, Option.map_some]
    rw [List.getElem?_reverse hp]
    have e : ∀ q, q < xs.length → xs[q]? = some (xs.getD q 0) := fun q hq => by rw [List.getD_eq_getElem?_getD, List.getElem?_eq_getElem hq]; rfl
    rw [e _ (by omega)]
    split
    · rfl
    · congr 2; omega
  · rw [List.getElem?_eq_none (by rw [revB_length]; omega), List.getElem?_eq_none (by simp; omega)]
theorem revB_step (xs : List UInt8) (k : Nat) (h : 2 * k + 1 < xs.length) : ((revB xs k).set k (xs.getD (xs.length - 1 - k) 0)).set (xs.length - 1 - k) (xs.getD k 0) = revB xs (k + 1) := by
  apply List.ext_getElem?
  intro p
  by_cases hp : p < xs.length
  · by_cases h1 : xs.length - 1 - k = p
    · subst h1
      rw [List.getElem?_set_self (by rw [List.length_set, revB_length]; exact hp)]
      unfold revB
      simp only [List.getElem?_map, List.getElem?_range hp, Option.map_some]
      rw [if_pos (by omega)]
      congr 2; omega
    · rw [List.getElem?_set_ne h1]
      by_cases h2 : k = p
      · subst h2
        rw [List.getElem?_set_self (by rw [revB_length]; exact hp)]
        unfold revB
        simp only [List.getElem?_map, List.getElem?_range hp, Option.map_some]
        rw [if_pos (by omega)]
      · rw [List.getElem?_set_ne h2]
        unfold revB
        simp only [List.getElem?_map, List.getElem?_range hp, Option.map_some]
        congr 1
        have : (p < k ∨ xs.length ≤ p + k) ↔ (p < k + 1 ∨ xs.length ≤ p + (k + 1)) := by omega
        simp only [this]
  · rw [List.getElem?_eq_none (by simp [revB_length]; omega), List.getElem?_eq_none (by rw [revB_length]; omega)]
theorem byl_set (l : List UInt8) (rest : List Value) (k : Nat) (v : UInt8) (h : k < l.length) : (byl l ++ rest).set k (.int .u8 (v.toNat : Int)) = byl (l.set k v) ++ rest := by
  rw [List.set_append_left _ _ (by rw [byl_length]; exact h)]
  simp [byl, List.map_set]
theorem byl_get {l : List UInt8} {rest : List Value} {j : Nat} (h : j < l.length) : (byl l ++ rest)[j]? = some (Value.int .u8 ((l.getD j 0).toNat : Int)) := by
  rw [List.getElem?_append_left (by rw [byl_length]; exact h)]
  simp [byl, h]
def RevRel (B : Nat) (w0 : World) (l : List Res) (b : Nat) (xs : List UInt8) (rest : List Value) (k : Nat) (i j : Value) (wr : World) : Prop :=
  ∃ q : Nat, k = xs.length - q ∧ 2 * q ≤ xs.length ∧ i = .int .i64 (q : Int) ∧ j = .int .i64 ((xs.length : Int) - 1 - q) ∧ Own B w0 wr (.cells b (byl (revB xs q) ++ rest) :: l)
set_option maxRecDepth 100000 in
set_option maxHeartbeats 4000000 in
theorem reverse_any (B : Nat) (w0 w : World) (l : List Res) (b c : Nat) (xs : List UInt8) (rest : List Value) (hx : xs.length ≤ 100000) (H : Own B w0 w (.cells b (byl xs ++ rest) :: l)) :
    Calls Try.prog 94 #[.slice (some ⟨b, 0, none⟩) xs.length c] w fun e w' => e = .returned (.tuple #[]) ∧ Own B w0 w' (.cells b (byl xs.reverse ++ rest) :: l) := by
  go_enter Try.func94, Try.ntmps94
  go_wp2
  go_loopg [2, 3] xs.length (RevRel B w0 l b xs rest)
  case atStart => exact ⟨0, rfl, by omega, rfl, by congr 1; omega, by rw [revB_zero]; exact H⟩
  case round =>
    clear H
    obtain ⟨q, hk, hq, rfl, rfl, H⟩ := hrel
    by_cases h0 : 2 * q + 1 < xs.length
    · have ej : (xs.length : Int) - 1 - (q : Int) = ((xs.length - 1 - q : Nat) : Int) := by omega
      obtain ⟨j, hj⟩ : ∃ j, xs.length - 1 - q = j := ⟨_, rfl⟩
      rw [ej, hj]
      have hst := revB_step xs q h0
      have gq := revB_get xs q q (by omega)
      have gj := revB_get xs q j (by omega)
      rw [if_neg (by omega)] at gq gj
      have hq1 : q < xs.length := by omega
      have hj1 : j < xs.length := by omega
      rw [hj] at hst
      obtain ⟨x, hxq⟩ : ∃ x, xs.getD q 0 = x := ⟨_, rfl⟩
      obtain ⟨y, hyj⟩ : ∃ y, xs.getD j 0 = y := ⟨_, rfl⟩
      rw [hxq, hyj] at hst
      rw [hxq] at gq
      rw [hyj] at gj
      have rl : (byl (revB xs q) ++ rest).length = xs.length + rest.length := by rw [List.length_append, byl_length, revB_length]
      have ldq : (Res.cells b (byl (revB xs q) ++ rest)).at b q [.int .u8 (x.toNat : Int)] := at_cells (by rw [byl_get (by rw [revB_length]; exact hq1), gq])
      have ldj : (Res.cells b (byl (revB xs q) ++ rest)).at b j [.int .u8 (y.toNat : Int)] := at_cells (by rw [byl_get (by rw [revB_length]; exact hj1), gj])
      have hqj : (q : Int) < (j : Int) := by omega
      have HST := Lib.hid hst
      have HJ := Lib.hid hj
      have HK := Lib.hid hk
      clear hst hj hk gq gj hxq hyj ej
      go_wp2_with (first
        | (guard_target =~ Code.wp _ (Code.region 3 _ true) _ _ _; refine region_tree 3 1 (G := ?_) (.q 0 (.q 1 (.q 2 (.q 3 (.q 4 (.q 5 (.q 6 (.q 8 (.q 9 (.q 10 (.both (.e 7 (.e 11 (.q 12 (.e 13 (.q 14 (.e 15 .nil)))))) (.e 11 (.e 7 (.q 12 (.e 13 (.q 14 (.e 15 .nil))))))))))))))))) (by kernel_rfl) (by intro c a d v w h; cases d <;> exact h) (by kernel_rfl) H ?_ (fun key3 w3 H2 => ?_); rotate_left 2; (revert w3; intro w2 H); simp only [List.drop_succ_cons, List.drop_zero])
        | (guard_target =~ Key 3 _; refine ⟨?_⟩; intro w2 H)
        | (guard_target =~ wpTree _ _ _ _ _ _ _; first | (guard_target =~ wpTree _ _ _ (Tr.q _ _) _ _ _; first | (refine tree_quiet ⟨_, H, by repeat first | exact .here | apply Suf.there⟩ rfl rfl rfl (fun K hK => ?_); simp only [List.getElem_toArray, List.getElem_cons_succ, List.getElem_cons_zero]; first | (guard_target =~ Oper.quiet _ (Oper.mk _ (.load _ _) _ _ _ _) _ _ _; (first | fail); clear hK K; simp only [Act.put, List.setIfInBounds_toArray, List.set_cons_succ, List.set_cons_zero, rl, List.length_set]) | (go_big_quiet_op; (try refine ⟨_, fun _ _ => rfl, ?_⟩); refine hK _ ?_; clear hK K)) | (refine tree_skip ⟨_, H, by repeat first | exact .here | apply Suf.there⟩ rfl rfl ?_; simp only [List.getElem_toArray, List.getElem_cons_succ, List.getElem_cons_zero, Act.put, List.setIfInBounds_toArray, List.set_cons_succ, List.set_cons_zero])) | (guard_target =~ wpTree _ _ _ (Tr.both _ _) _ _ _; refine tree_both ?_ ?_) | (guard_target =~ wpTree _ _ _ (Tr.e _ _) _ _ _; first | (refine tree_one rfl rfl (fun K hK => ?_); simp only [List.getElem_toArray, List.getElem_cons_succ, List.getElem_cons_zero]; first | ((first | (guard_target =~ Oper.wp _ (Oper.mk _ (.store _ _ _) _ _ _ _) _ _ _ _; refine o_store (l' := ?_) (row := ?_) rfl rfl H rfl ?_ ?_ ?_ ?_ (fun w3 H2 => hK _ _ ⟨_, H2, ?_⟩ ?_); rotate_left 2; (exact r0); (focus (intro _; (simp [Act.eval, Value.cells, List.getD, rl, List.length_set]; done))); (focus ((try simp [Act.eval, Value.cells, List.getD, rl, List.length_set]); omega)); (exact rfl); (guard_target =~ Suf _ _; repeat first | exact .here | apply Suf.there); clear hK K; clear H; (try clear w2); revert w3; intro w2 H; (try simp [Act.eval, List.getD, rl, List.length_set] at H); (try simp [Value.cells, setL, rl, List.length_set] at H)) | (guard_target =~ Oper.wp _ (Oper.mk _ (.load _ _) _ _ _ _) _ _ _ _; (refine o_load (v := ?_) (r := ?_) rfl rfl H ?_ ?_ ?_ (hK _ _ ⟨_, H, by repeat first | exact .here | apply Suf.there⟩ ?_); rotate_left 2; (with_reducible assumption); (repeat first | exact .head _ | apply List.Mem.tail); (focus (intro _; simp [rl, List.length_set]; done))); clear hK K)); simp only [Act.put, List.setIfInBounds_toArray, List.set_cons_succ, List.set_cons_zero, rl, List.length_set]) | go_big_op) | (refine tree_one_skip ⟨_, H, by repeat first | exact .here | apply Suf.there⟩ rfl rfl ?_; simp only [List.getElem_toArray, List.getElem_cons_succ, List.getElem_cons_zero, Act.put, List.setIfInBounds_toArray, List.set_cons_succ, List.set_cons_zero])) | (refine tree_nil ?_; revert w2; exact key3.out) | (refine tree_nil ?_; replace H := H.swap; revert w2; exact key3.out) | (refine tree_nil ?_; replace H := H.swap1; revert w2; exact key3.out) | (refine tree_nil ?_; replace H := H.swap.swap1; revert w2; exact key3.out) | (refine tree_nil ?_; replace H := H.swap1.swap; revert w2; exact key3.out) | (refine tree_nil ?_; replace H := H.swap1.swap.swap1; revert w2; exact key3.out) | (guard_target =~ wpTree _ _ _ Tr.nil _ _ _; refine tree_nil ?_)))
      rw [byl_set _ _ _ _ (by rw [revB_length]; exact hq1), byl_set _ _ _ _ (by rw [List.length_set, revB_length]; exact hj1), HST.out] at H
      go_roundg (xs.length - (q + 1))
      case rel =>
        have hj := HJ.out
        exact ⟨q + 1, rfl, by omega, by congr 1, by congr 1; omega, H⟩
      case measure => have hk := HK.out; omega
    · rw [revB_full xs q (by omega)] at H
      have hn : ¬ (q : Int) < (xs.length : Int) - 1 - q := by omega
      go_wp2_with (first | fail)
      go_end0
      exact ⟨rfl, H⟩
end Go.Proofs.Ytmmieilogpmocaa
