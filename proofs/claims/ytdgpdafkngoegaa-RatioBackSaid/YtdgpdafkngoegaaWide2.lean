/-
  The walks of layer 3 (wide): Small, Sign, Add, Sub, Neg.
-/
import Derived.Test.YtdgpdafkngoegaaWideE
namespace Go.Proofs.Ytdgpdafkngoegaa
set_option linter.unusedVariables false
open Go.RowKit

/-- An int64? -/
def F64 (z : Int) : Prop := -9223372036854775808 ≤ z ∧ z ≤ 9223372036854775807
instance (z : Int) : Decidable (F64 z) := by unfold F64; infer_instance
theorem small_plain {a b c d : Int} (ha : Wd a) (hb : Wd b) (hc : Wd c) (hd : Wd d) : (F64 (sv a b c d) ↔ wrap64 a = sv a b c d) ∧ F64 (wrap64 a) := by
  unfold Wd at *; unfold F64 wrap64 sv
  constructor
  · split <;> omega
  · omega
set_option maxRecDepth 100000 in
theorem small_any (z : Int) (hz : R256 z) (w : World) :
    Calls Try.prog 43 #[iV z] w fun e w' => e = .returned (.tuple #[.int .i64 (if F64 z then z else 0), .bool (decide (F64 z))]) ∧ Below w.heap.size w w' := by
  obtain ⟨a, b, c, d, ha, hb, hc, hd, hzz, hE⟩ := iV_words z hz
  have hp := small_plain ha hb hc hd
  rw [hzz] at hp
  rw [hE]
  obtain ⟨n, hn⟩ : ∃ n, wrap64 a = n := ⟨_, rfl⟩
  rw [hn] at hp
  have hn1 := hp.2
  unfold F64 at hn1
  have hq := fun w => ne_iV n z (by unfold R256; omega) hz w
  rw [hE] at hq
  have g1 := guard_iV
  have hof := fun w => of_w n w hn1.1 hn1.2
  have HP := Lib.hid hp.1
  clear hp hzz hE
  by_cases hnz : n = z
  · have hd1 : decide (n = z) = true := by simpa using hnz
    have hf : F64 z := HP.out.2 hnz
    have hf2 : decide (F64 z) = true := by simpa using hf
    have hres : (if F64 z then z else 0) = n := by rw [if_pos hf, hnz]
    rw [hf2, hres]
    clear hf hf2 hres hnz HP
    go_enter Try.func43, Try.ntmps43
    go_wp2
    refine region_below (by kernel_rfl) (by kernel_rfl) (fun C hC1 hC2 => ?_)
    have l0 : ∀ w', C w' → w'.cell? ⟨w.heap.size, 0, none⟩ = some (.int .u64 a) := class_cell hC1 (by (simp [go_sem]; done))
    have l1 : ∀ w', C w' → w'.cell? ⟨w.heap.size, 1, none⟩ = some (.int .u64 b) := class_cell hC1 (by (simp [go_sem]; done))
    have l2 : ∀ w', C w' → w'.cell? ⟨w.heap.size, 2, none⟩ = some (.int .u64 c) := class_cell hC1 (by (simp [go_sem]; done))
    have l3 : ∀ w', C w' → w'.cell? ⟨w.heap.size, 3, none⟩ = some (.int .u64 d) := class_cell hC1 (by (simp [go_sem]; done))
    repeat (first
      | (go_big_quiet_want; go_big_quiet_op; go_big_quiet_on)
      | (go_big_quiet_want; apply quiet_intro; (intro w' hw; simp [go_sem, l0, l1, l2, l3, g1, hq, hd1, hw]; with_reducible exact rfl); (go_big_quiet_on; simp only [Act.put, List.setIfInBounds_toArray, List.set_cons_succ, List.set_cons_zero]))
      | (go_big_quiet_want; apply quiet_intro; (intro w' hw; simp [go_sem, hn]; go_at_call 44; refine (hof _).mono ?_; rintro e w'' ⟨he, hb⟩; exact ⟨he, hC2 _ _ hw hb⟩); (go_big_quiet_on; simp only [Act.put, List.setIfInBounds_toArray, List.set_cons_succ, List.set_cons_zero])))
    refine wpQuiet_nil ?_
    intro W2 hW2
    have hb2 := hC1 W2 hW2
    clear l0 l1 l2 l3 hW2 hC1 hC2 C
    go_wp2
    go_ret2
    exact ⟨by rw [← hn]; rfl, below_trans (below_alloc1 _ _) hb2⟩
  · have hd1 : decide (n = z) = false := by simpa using hnz
    have hf : ¬ F64 z := fun h => hnz (HP.out.1 h)
    have hf2 : decide (F64 z) = false := by simpa using hf
    have hres : (if F64 z then z else 0) = 0 := by rw [if_neg hf]
    rw [hf2, hres]
    clear hf hf2 hres hnz HP
    go_enter Try.func43, Try.ntmps43
    go_wp2
    refine region_below (by kernel_rfl) (by kernel_rfl) (fun C hC1 hC2 => ?_)
    have l0 : ∀ w', C w' → w'.cell? ⟨w.heap.size, 0, none⟩ = some (.int .u64 a) := class_cell hC1 (by (simp [go_sem]; done))
    have l1 : ∀ w', C w' → w'.cell? ⟨w.heap.size, 1, none⟩ = some (.int .u64 b) := class_cell hC1 (by (simp [go_sem]; done))
    have l2 : ∀ w', C w' → w'.cell? ⟨w.heap.size, 2, none⟩ = some (.int .u64 c) := class_cell hC1 (by (simp [go_sem]; done))
    have l3 : ∀ w', C w' → w'.cell? ⟨w.heap.size, 3, none⟩ = some (.int .u64 d) := class_cell hC1 (by (simp [go_sem]; done))
    repeat (first
      | (go_big_quiet_want; go_big_quiet_op; go_big_quiet_on)
      | (go_big_quiet_want; apply quiet_intro; (intro w' hw; simp [go_sem, l0, l1, l2, l3, g1, hq, hd1, hw]; with_reducible exact rfl); (go_big_quiet_on; simp only [Act.put, List.setIfInBounds_toArray, List.set_cons_succ, List.set_cons_zero]))
      | (go_big_quiet_want; apply quiet_intro; (intro w' hw; simp [go_sem, hn]; go_at_call 44; refine (hof _).mono ?_; rintro e w'' ⟨he, hb⟩; exact ⟨he, hC2 _ _ hw hb⟩); (go_big_quiet_on; simp only [Act.put, List.setIfInBounds_toArray, List.set_cons_succ, List.set_cons_zero])))
    refine wpQuiet_nil ?_
    intro W2 hW2
    have hb2 := hC1 W2 hW2
    clear l0 l1 l2 l3 hW2 hC1 hC2 C
    go_wp2
    go_ret2
    exact ⟨rfl, below_trans (below_alloc1 _ _) hb2⟩
end Go.Proofs.Ytdgpdafkngoegaa
