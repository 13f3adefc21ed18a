/-
  The walks of layer 3 (wide): Neg, Sign.
-/
import Derived.Test.YtmmieilogpmocaaWideM
namespace Go.Proofs.Ytmmieilogpmocaa
set_option linter.unusedVariables false
open Go.RowKit

set_option maxRecDepth 100000 in
theorem neg_any (x : Int) (hx : R256 x) (w : World) :
    Calls Try.prog 55 #[iV x] w fun e w' => e = .returned (.tuple #[iV (fitZ (-x)), .int .i64 (errZ (-x))]) ∧ Below w.heap.size w w' := by
  obtain ⟨a0, a1, a2, a3, ha0, ha1, ha2, ha3, hxx, eX⟩ := iV_words x hx
  have hq := fun w => eq_iV x (-57896044618658097711785492504343953926634992332820282019728792003956564819968) hx (by unfold R256; omega) w
  rw [eX, iV_least] at hq
  have ht := fun w => turn_w a0 a1 a2 a3 ha0 ha1 ha2 ha3 w
  rw [hxx] at ht
  have g1 := guard_agg
  rw [eX]
  clear hxx eX
  by_cases hn : x = -57896044618658097711785492504343953926634992332820282019728792003956564819968
  · have hd1 : decide (x = -57896044618658097711785492504343953926634992332820282019728792003956564819968) = true := by simpa using hn
    have hN : ¬ R256 (-x) := by unfold R256; omega
    have hr : fitZ (-x) = 0 := by unfold fitZ; rw [if_neg hN]
    have hs : errZ (-x) = 3 := by unfold errZ; rw [if_neg hN]
    rw [hr, hs, iV_zero]
    clear hr hs hN hn
    go_enter Try.func55, Try.ntmps55
    go_wp2_with fail
    refine region_below (by kernel_rfl) (by kernel_rfl) (fun C hC1 hC2 => ?_)
    have l0 : ∀ w', C w' → w'.cell? ⟨w.heap.size, 0, none⟩ = some (.int .u64 a0) := class_cell hC1 (by (simp [go_sem]; done))
    have l1 : ∀ w', C w' → w'.cell? ⟨w.heap.size, 1, none⟩ = some (.int .u64 a1) := class_cell hC1 (by (simp [go_sem]; done))
    have l2 : ∀ w', C w' → w'.cell? ⟨w.heap.size, 2, none⟩ = some (.int .u64 a2) := class_cell hC1 (by (simp [go_sem]; done))
    have l3 : ∀ w', C w' → w'.cell? ⟨w.heap.size, 3, none⟩ = some (.int .u64 a3) := class_cell hC1 (by (simp [go_sem]; done))
    repeat (first
      | (go_big_quiet_want; apply quiet_intro; (intro w' hw; simp [go_sem, l0, l1, l2, l3, g1, hq, hd1, hw]; with_reducible exact rfl); (go_big_quiet_on; simp only [Act.put, List.setIfInBounds_toArray, List.set_cons_succ, List.set_cons_zero]))
      | (go_big_quiet_want; apply quiet_intro; (intro w' hw; simp [go_sem]; go_at_call 88; refine (least_any _).mono ?_; rintro e w'' ⟨he, hb⟩; exact ⟨he, hC2 _ _ hw hb⟩); (go_big_quiet_on; simp only [Act.put, List.setIfInBounds_toArray, List.set_cons_succ, List.set_cons_zero])))
    refine wpQuiet_nil ?_
    intro W2 hW2
    have hb2 := hC1 W2 hW2
    have m0 : W2.cell? ⟨w.heap.size, 0, none⟩ = some (.int .u64 a0) := below_cell hb2 (by (simp [go_sem]; done))
    have f0 : W2.frozen? ⟨w.heap.size, 0, none⟩ = false := below_frozen hb2 (v := .int .u64 a0) (by (simp [go_sem]; done)) (by (simp [go_sem]; done))
    have m1 : W2.cell? ⟨w.heap.size, 1, none⟩ = some (.int .u64 a1) := below_cell hb2 (by (simp [go_sem]; done))
    have f1 : W2.frozen? ⟨w.heap.size, 1, none⟩ = false := below_frozen hb2 (v := .int .u64 a1) (by (simp [go_sem]; done)) (by (simp [go_sem]; done))
    have m2 : W2.cell? ⟨w.heap.size, 2, none⟩ = some (.int .u64 a2) := below_cell hb2 (by (simp [go_sem]; done))
    have f2 : W2.frozen? ⟨w.heap.size, 2, none⟩ = false := below_frozen hb2 (v := .int .u64 a2) (by (simp [go_sem]; done)) (by (simp [go_sem]; done))
    have m3 : W2.cell? ⟨w.heap.size, 3, none⟩ = some (.int .u64 a3) := below_cell hb2 (by (simp [go_sem]; done))
    have f3 : W2.frozen? ⟨w.heap.size, 3, none⟩ = false := below_frozen hb2 (v := .int .u64 a3) (by (simp [go_sem]; done)) (by (simp [go_sem]; done))
    have m4 : W2.cell? ⟨w.heap.size + 1, 0, none⟩ = some (.int .u64 0) := below_cell hb2 (by (simp [go_sem]; done))
    have f4 : W2.frozen? ⟨w.heap.size + 1, 0, none⟩ = false := below_frozen hb2 (v := .int .u64 0) (by (simp [go_sem]; done)) (by (simp [go_sem]; done))
    have m5 : W2.cell? ⟨w.heap.size + 1, 1, none⟩ = some (.int .u64 0) := below_cell hb2 (by (simp [go_sem]; done))
    have f5 : W2.frozen? ⟨w.heap.size + 1, 1, none⟩ = false := below_frozen hb2 (v := .int .u64 0) (by (simp [go_sem]; done)) (by (simp [go_sem]; done))
    have m6 : W2.cell? ⟨w.heap.size + 1, 2, none⟩ = some (.int .u64 0) := below_cell hb2 (by (simp [go_sem]; done))
    have f6 : W2.frozen? ⟨w.heap.size + 1, 2, none⟩ = false := below_frozen hb2 (v := .int .u64 0) (by (simp [go_sem]; done)) (by (simp [go_sem]; done))
    have m7 : W2.cell? ⟨w.heap.size + 1, 3, none⟩ = some (.int .u64 0) := below_cell hb2 (by (simp [go_sem]; done))
    have f7 : W2.frozen? ⟨w.heap.size + 1, 3, none⟩ = false := below_frozen hb2 (v := .int .u64 0) (by (simp [go_sem]; done)) (by (simp [go_sem]; done))
    clear l0 l1 l2 l3 hW2 hC1 hC2 C
    go_wp2_with fail
    refine bodyPost_ret (v := .tuple #[.agg #[.int .u64 0, .int .u64 0, .int .u64 0, .int .u64 0], .int .i64 3]) (by simp [results, Try.results55, go_sem, m4, m5, m6, m7]) rfl ⟨rfl, ?_⟩
    exact (((((below_trans (by go_grown) hb2).setCell (by simp <;> omega) _).setCell (by simp <;> omega) _).setCell (by simp <;> omega) _).setCell (by simp <;> omega) _)
  · have hd1 : decide (x = -57896044618658097711785492504343953926634992332820282019728792003956564819968) = false := by simpa using hn
    have hN : R256 (-x) := by unfold R256 at *; omega
    have hr : fitZ (-x) = -x := by unfold fitZ; rw [if_pos hN]
    have hs : errZ (-x) = 0 := by unfold errZ; rw [if_pos hN]
    have hng : negZ x = -x := by unfold negZ; rw [if_neg hn]
    rw [hng] at ht
    rw [hr, hs]
    obtain ⟨r0, r1, r2, r3, hr0, hr1, hr2, hr3, hrr, eR⟩ := iV_words (-x) hN
    rw [eR] at ht
    rw [eR]
    clear hr hs hN hn hng hrr eR hr0 hr1 hr2 hr3
    go_enter Try.func55, Try.ntmps55
    go_wp2_with fail
    refine region_below (by kernel_rfl) (by kernel_rfl) (fun C hC1 hC2 => ?_)
    have l0 : ∀ w', C w' → w'.cell? ⟨w.heap.size, 0, none⟩ = some (.int .u64 a0) := class_cell hC1 (by (simp [go_sem]; done))
    have l1 : ∀ w', C w' → w'.cell? ⟨w.heap.size, 1, none⟩ = some (.int .u64 a1) := class_cell hC1 (by (simp [go_sem]; done))
    have l2 : ∀ w', C w' → w'.cell? ⟨w.heap.size, 2, none⟩ = some (.int .u64 a2) := class_cell hC1 (by (simp [go_sem]; done))
    have l3 : ∀ w', C w' → w'.cell? ⟨w.heap.size, 3, none⟩ = some (.int .u64 a3) := class_cell hC1 (by (simp [go_sem]; done))
    repeat (first
      | (go_big_quiet_want; apply quiet_intro; (intro w' hw; simp [go_sem, l0, l1, l2, l3, g1, hq, hd1, hw]; with_reducible exact rfl); (go_big_quiet_on; simp only [Act.put, List.setIfInBounds_toArray, List.set_cons_succ, List.set_cons_zero]))
      | (go_big_quiet_want; apply quiet_intro; (intro w' hw; simp [go_sem]; go_at_call 88; refine (least_any _).mono ?_; rintro e w'' ⟨he, hb⟩; exact ⟨he, hC2 _ _ hw hb⟩); (go_big_quiet_on; simp only [Act.put, List.setIfInBounds_toArray, List.set_cons_succ, List.set_cons_zero])))
    refine wpQuiet_nil ?_
    intro W2 hW2
    have hb2 := hC1 W2 hW2
    have m0 : W2.cell? ⟨w.heap.size, 0, none⟩ = some (.int .u64 a0) := below_cell hb2 (by (simp [go_sem]; done))
    have f0 : W2.frozen? ⟨w.heap.size, 0, none⟩ = false := below_frozen hb2 (v := .int .u64 a0) (by (simp [go_sem]; done)) (by (simp [go_sem]; done))
    have m1 : W2.cell? ⟨w.heap.size, 1, none⟩ = some (.int .u64 a1) := below_cell hb2 (by (simp [go_sem]; done))
    have f1 : W2.frozen? ⟨w.heap.size, 1, none⟩ = false := below_frozen hb2 (v := .int .u64 a1) (by (simp [go_sem]; done)) (by (simp [go_sem]; done))
    have m2 : W2.cell? ⟨w.heap.size, 2, none⟩ = some (.int .u64 a2) := below_cell hb2 (by (simp [go_sem]; done))
    have f2 : W2.frozen? ⟨w.heap.size, 2, none⟩ = false := below_frozen hb2 (v := .int .u64 a2) (by (simp [go_sem]; done)) (by (simp [go_sem]; done))
    have m3 : W2.cell? ⟨w.heap.size, 3, none⟩ = some (.int .u64 a3) := below_cell hb2 (by (simp [go_sem]; done))
    have f3 : W2.frozen? ⟨w.heap.size, 3, none⟩ = false := below_frozen hb2 (v := .int .u64 a3) (by (simp [go_sem]; done)) (by (simp [go_sem]; done))
    have m4 : W2.cell? ⟨w.heap.size + 1, 0, none⟩ = some (.int .u64 0) := below_cell hb2 (by (simp [go_sem]; done))
    have f4 : W2.frozen? ⟨w.heap.size + 1, 0, none⟩ = false := below_frozen hb2 (v := .int .u64 0) (by (simp [go_sem]; done)) (by (simp [go_sem]; done))
    have m5 : W2.cell? ⟨w.heap.size + 1, 1, none⟩ = some (.int .u64 0) := below_cell hb2 (by (simp [go_sem]; done))
    have f5 : W2.frozen? ⟨w.heap.size + 1, 1, none⟩ = false := below_frozen hb2 (v := .int .u64 0) (by (simp [go_sem]; done)) (by (simp [go_sem]; done))
    have m6 : W2.cell? ⟨w.heap.size + 1, 2, none⟩ = some (.int .u64 0) := below_cell hb2 (by (simp [go_sem]; done))
    have f6 : W2.frozen? ⟨w.heap.size + 1, 2, none⟩ = false := below_frozen hb2 (v := .int .u64 0) (by (simp [go_sem]; done)) (by (simp [go_sem]; done))
    have m7 : W2.cell? ⟨w.heap.size + 1, 3, none⟩ = some (.int .u64 0) := below_cell hb2 (by (simp [go_sem]; done))
    have f7 : W2.frozen? ⟨w.heap.size + 1, 3, none⟩ = false := below_frozen hb2 (v := .int .u64 0) (by (simp [go_sem]; done)) (by (simp [go_sem]; done))
    clear l0 l1 l2 l3 hW2 hC1 hC2 C
    go_wp2_with fail
    refine (ht _).mono ?_
    rintro e w3 ⟨rfl, hb3⟩
    have p0 : w3.cell? ⟨w.heap.size + 1, 0, none⟩ = some (.int .u64 0) := below_cell hb3 m4
    have q0 : w3.frozen? ⟨w.heap.size + 1, 0, none⟩ = false := below_frozen hb3 m4 f4
    have p1 : w3.cell? ⟨w.heap.size + 1, 1, none⟩ = some (.int .u64 0) := below_cell hb3 m5
    have q1 : w3.frozen? ⟨w.heap.size + 1, 1, none⟩ = false := below_frozen hb3 m5 f5
    have p2 : w3.cell? ⟨w.heap.size + 1, 2, none⟩ = some (.int .u64 0) := below_cell hb3 m6
    have q2 : w3.frozen? ⟨w.heap.size + 1, 2, none⟩ = false := below_frozen hb3 m6 f6
    have p3 : w3.cell? ⟨w.heap.size + 1, 3, none⟩ = some (.int .u64 0) := below_cell hb3 m7
    have q3 : w3.frozen? ⟨w.heap.size + 1, 3, none⟩ = false := below_frozen hb3 m7 f7
    go_wp2_with fail
    refine bodyPost_ret (v := .tuple #[.agg #[.int .u64 r0, .int .u64 r1, .int .u64 r2, .int .u64 r3], .int .i64 0]) (by simp [results, Try.results55, go_sem, p0, p1, p2, p3]) rfl ⟨rfl, ?_⟩
    exact (((((below_trans (by go_grown) (below_trans hb2 hb3)).setCell (by simp <;> omega) _).setCell (by simp <;> omega) _).setCell (by simp <;> omega) _).setCell (by simp <;> omega) _)
/-- The sign of a number. -/
def signZ (x : Int) : Int := if x < 0 then -1 else if x = 0 then 0 else 1
set_option maxRecDepth 100000 in
theorem sign_any (x : Int) (hx : R256 x) (w : World) :
    Calls Try.prog 54 #[iV x] w fun e w' => e = .returned (.int .i64 (signZ x)) ∧ Below w.heap.size w w' := by
  obtain ⟨a0, a1, a2, a3, ha0, ha1, ha2, ha3, hxx, eX⟩ := iV_words x hx
  have hq := fun w => eq_iV x 0 hx (by unfold R256; omega) w
  rw [eX, iV_zero] at hq
  have g1 := guard_agg
  have hs := sv_neg ha0 ha1 ha2 ha3
  rw [hxx] at hs
  rw [eX]
  clear hxx eX
  by_cases hn : x < 0
  · have hd : decide (x < 0) = true := by simpa using hn
    rw [hd] at hs
    have hv := Lib.hid hs
    have hr : signZ x = -1 := by unfold signZ; rw [if_pos hn]
    rw [hr]
    clear hr hn hs hd
    go_enter Try.func54, Try.ntmps54
    go_wp2_with fail
    refine (below_v a0 a1 a2 a3 true ha3 hv _).mono ?_
    rintro e w1 ⟨rfl, hb⟩
    go_wp2_with fail
    go_ret
    exact ⟨rfl, below_trans (by go_grown) hb⟩
  · have hd : decide (x < 0) = false := by simpa using hn
    rw [hd] at hs
    have hv := Lib.hid hs
    by_cases h0 : x = 0
    · have hd1 : decide (x = 0) = true := by simpa using h0
      have hr : signZ x = 0 := by unfold signZ; rw [if_neg hn, if_pos h0]
      rw [hr]
      clear hr hn hs hd h0
      go_enter Try.func54, Try.ntmps54
      go_wp2_with fail
      refine (below_v a0 a1 a2 a3 false ha3 hv _).mono ?_
      rintro e w1 ⟨rfl, hb⟩
      have m0 : w1.cell? ⟨w.heap.size, 0, none⟩ = some (.int .u64 a0) := below_cell hb (by simp [go_sem])
      have m1 : w1.cell? ⟨w.heap.size, 1, none⟩ = some (.int .u64 a1) := below_cell hb (by simp [go_sem])
      have m2 : w1.cell? ⟨w.heap.size, 2, none⟩ = some (.int .u64 a2) := below_cell hb (by simp [go_sem])
      have m3 : w1.cell? ⟨w.heap.size, 3, none⟩ = some (.int .u64 a3) := below_cell hb (by simp [go_sem])
      go_wp2_with fail
      go_ret
      exact ⟨rfl, below_trans (by go_grown) hb⟩
    · have hd1 : decide (x = 0) = false := by simpa using h0
      have hr : signZ x = 1 := by unfold signZ; rw [if_neg hn, if_neg h0]
      rw [hr]
      clear hr hn hs hd h0
      go_enter Try.func54, Try.ntmps54
      go_wp2_with fail
      refine (below_v a0 a1 a2 a3 false ha3 hv _).mono ?_
      rintro e w1 ⟨rfl, hb⟩
      have m0 : w1.cell? ⟨w.heap.size, 0, none⟩ = some (.int .u64 a0) := below_cell hb (by simp [go_sem])
      have m1 : w1.cell? ⟨w.heap.size, 1, none⟩ = some (.int .u64 a1) := below_cell hb (by simp [go_sem])
      have m2 : w1.cell? ⟨w.heap.size, 2, none⟩ = some (.int .u64 a2) := below_cell hb (by simp [go_sem])
      have m3 : w1.cell? ⟨w.heap.size, 3, none⟩ = some (.int .u64 a3) := below_cell hb (by simp [go_sem])
      go_wp2_with fail
      go_ret
      exact ⟨rfl, below_trans (by go_grown) hb⟩
end Go.Proofs.Ytmmieilogpmocaa
