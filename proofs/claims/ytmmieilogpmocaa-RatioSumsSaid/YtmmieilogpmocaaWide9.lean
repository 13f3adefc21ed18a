/-
  The walks of layer 3 (wide): signed.
-/
import Derived.Test.YtmmieilogpmocaaWide6
namespace Go.Proofs.Ytmmieilogpmocaa
set_option linter.unusedVariables false
set_option linter.unusedSimpArgs false
open Go.RowKit

theorem or_zero (a b : Int) (ha : Wd a) (hb : Wd b) : ∃ r, bits .or .u64 a b = r ∧ Wd r ∧ (r = 0 ↔ a = 0 ∧ b = 0) := by
  unfold Wd at *
  obtain ⟨n, rfl⟩ := Int.eq_ofNat_of_zero_le ha.1
  obtain ⟨k, rfl⟩ := Int.eq_ofNat_of_zero_le hb.1
  refine ⟨_, u64_or_nat n k (by omega) (by omega), ⟨Int.natCast_nonneg _, ?_⟩, ?_⟩
  · have := Nat.or_lt_two_pow (x := n) (y := k) (n := 64) (by omega) (by omega)
    omega
  · have : n ||| k = 0 ↔ n = 0 ∧ k = 0 := Nat.or_eq_zero_iff
    omega
/-- What signed answers. -/
def sgZ (m : Int) (neg : Bool) : Int := if neg then -m else m
set_option maxRecDepth 100000 in
set_option maxHeartbeats 4000000 in
theorem signed_any (m : Int) (neg : Bool) (hm : M512 m) (w : World) :
    Calls Try.prog 86 #[mV m, .bool neg] w fun e w' => e = .returned (.tuple #[iV (fitZ (sgZ m neg)), .int .i64 (errZ (sgZ m neg))]) ∧ Below w.heap.size w w' := by
  obtain ⟨a0, a1, a2, a3, a4, a5, a6, a7, ha0, ha1, ha2, ha3, ha4, ha5, ha6, ha7, hmm, eX⟩ := mV_words m hm
  obtain ⟨o1, O1, ho1, i1⟩ := or_zero a4 a5 ha4 ha5
  obtain ⟨o2, O2, ho2, i2⟩ := or_zero o1 a6 ho1 ha6
  obtain ⟨o3, O3, ho3, i3⟩ := or_zero o2 a7 ho2 ha7
  have ht := fun w => turn_w a0 a1 a2 a3 ha0 ha1 ha2 ha3 w
  have hq := fun w => eq_iV (sv a0 a1 a2 a3) (-57896044618658097711785492504343953926634992332820282019728792003956564819968) (sv_range ha0 ha1 ha2 ha3) (by unfold R256; omega) w
  rw [iV_sv ha0 ha1 ha2 ha3, iV_least] at hq
  have g1 := guard_agg
  have hIV := iV_sv ha0 ha1 ha2 ha3
  rw [eX]
  obtain ⟨va, hva⟩ : ∃ v, Hid (ngB a3 = v) := ⟨_, Lib.hid rfl⟩
  have IFF := Lib.hid (And.intro i1 (And.intro i2 i3))
  clear i1 i2 i3 eX
  by_cases hz : o3 = 0
  · have t0 : decide (o3 = 0) = true := by simpa using hz
    have t1 : (o3 == 0) = true := by simpa using hz
    have t2 : (o3 != 0) = false := by simpa using hz
    obtain ⟨z4, z5, z6, z7⟩ : a4 = 0 ∧ a5 = 0 ∧ a6 = 0 ∧ a7 = 0 := by
      obtain ⟨i1, i2, i3⟩ := IFF.out
      exact ⟨(i1.1 (i2.1 (i3.1 hz).1).1).1, (i1.1 (i2.1 (i3.1 hz).1).1).2, (i2.1 (i3.1 hz).1).2, (i3.1 hz).2⟩
    have hm4 : m = a0 + 18446744073709551616 * (a1 + 18446744073709551616 * (a2 + 18446744073709551616 * a3)) := by
      rw [← hmm, z4, z5, z6, z7]; unfold mv; omega
    clear z4 z5 z6 z7 IFF hz hmm hm
    cases va
    · have hsv : sv a0 a1 a2 a3 = m := by
        have hA := hva.out
        unfold ngB at hA; simp only [decide_eq_false_iff_not] at hA; unfold sv; unfold Wd at *; split <;> omega
      have hF : ∀ b, R256 (sgZ m b) := by
        intro b
        have hA := hva.out
        unfold ngB at hA; simp only [decide_eq_false_iff_not] at hA; unfold sgZ R256; unfold Wd at *; split <;> omega
      cases neg
      · replace hF := hF false
        have hr : fitZ (sgZ m false) = sgZ m false := by unfold fitZ; rw [if_pos hF]
        have hs : errZ (sgZ m false) = 0 := by unfold errZ; rw [if_pos hF]
        rw [hr, hs]
        clear hr hs
        have hsg : sgZ m false = m := rfl
        rw [hsg, ← hsv, hIV]
        clear hsg hsv hF hm4 hIV ht
        go_enter Try.func86, Try.ntmps86
        go_wp2_with fail
        refine region_below (by kernel_rfl) (by kernel_rfl) (fun C hC1 hC2 => ?_)
        have l0 : ∀ w', C w' → w'.cell? ⟨w.heap.size, 0, none⟩ = some (.int .u64 a0) := class_cell hC1 (by (simp [go_sem]; done))
        have l1 : ∀ w', C w' → w'.cell? ⟨w.heap.size, 1, none⟩ = some (.int .u64 a1) := class_cell hC1 (by (simp [go_sem]; done))
        have l2 : ∀ w', C w' → w'.cell? ⟨w.heap.size, 2, none⟩ = some (.int .u64 a2) := class_cell hC1 (by (simp [go_sem]; done))
        have l3 : ∀ w', C w' → w'.cell? ⟨w.heap.size, 3, none⟩ = some (.int .u64 a3) := class_cell hC1 (by (simp [go_sem]; done))
        have l4 : ∀ w', C w' → w'.cell? ⟨w.heap.size, 4, none⟩ = some (.int .u64 a4) := class_cell hC1 (by (simp [go_sem]; done))
        have l5 : ∀ w', C w' → w'.cell? ⟨w.heap.size, 5, none⟩ = some (.int .u64 a5) := class_cell hC1 (by (simp [go_sem]; done))
        have l6 : ∀ w', C w' → w'.cell? ⟨w.heap.size, 6, none⟩ = some (.int .u64 a6) := class_cell hC1 (by (simp [go_sem]; done))
        have l7 : ∀ w', C w' → w'.cell? ⟨w.heap.size, 7, none⟩ = some (.int .u64 a7) := class_cell hC1 (by (simp [go_sem]; done))
        have l8 : ∀ w', C w' → w'.cell? ⟨w.heap.size + 1 + 1, 0, none⟩ = some (.int .u64 a0) := class_cell hC1 (by (simp [go_sem]; done))
        have l9 : ∀ w', C w' → w'.cell? ⟨w.heap.size + 1 + 1, 1, none⟩ = some (.int .u64 a1) := class_cell hC1 (by (simp [go_sem]; done))
        have l10 : ∀ w', C w' → w'.cell? ⟨w.heap.size + 1 + 1, 2, none⟩ = some (.int .u64 a2) := class_cell hC1 (by (simp [go_sem]; done))
        have l11 : ∀ w', C w' → w'.cell? ⟨w.heap.size + 1 + 1, 3, none⟩ = some (.int .u64 a3) := class_cell hC1 (by (simp [go_sem]; done))
        repeat (first
          | go_big_quiet_skip
          | (go_big_quiet_want; go_big_quiet_op; go_big_quiet_on)
          | (go_big_quiet_want; apply quiet_intro; (intro w' hw; simp [go_sem, l0, l1, l2, l3, l4, l5, l6, l7, l8, l9, l10, l11, O1, O2, O3, t0, t1, t2, g1, hq, hw]; with_reducible exact rfl); (go_big_quiet_on; simp only [Act.put, List.setIfInBounds_toArray, List.set_cons_succ, List.set_cons_zero]))
          | (go_big_quiet_want; apply quiet_intro; (intro w' hw; simp [go_sem]; go_at_call 87; refine (below_v _ _ _ _ _ (by assumption) (by assumption) _).mono ?_; rintro e w'' ⟨he, hb⟩; exact ⟨he, hC2 _ _ hw hb⟩); (go_big_quiet_on; simp only [Act.put, List.setIfInBounds_toArray, List.set_cons_succ, List.set_cons_zero])))
        refine wpQuiet_nil ?_
        intro W2 hW2
        have hb2 := hC1 W2 hW2
        have m0 : W2.cell? ⟨w.heap.size + 1, 0, none⟩ = some (.int .u64 0) := below_cell hb2 (by (simp [go_sem]; done))
        have f0 : W2.frozen? ⟨w.heap.size + 1, 0, none⟩ = false := below_frozen hb2 (v := .int .u64 0) (by (simp [go_sem]; done)) (by (simp [go_sem]; done))
        have m1 : W2.cell? ⟨w.heap.size + 1, 1, none⟩ = some (.int .u64 0) := below_cell hb2 (by (simp [go_sem]; done))
        have f1 : W2.frozen? ⟨w.heap.size + 1, 1, none⟩ = false := below_frozen hb2 (v := .int .u64 0) (by (simp [go_sem]; done)) (by (simp [go_sem]; done))
        have m2 : W2.cell? ⟨w.heap.size + 1, 2, none⟩ = some (.int .u64 0) := below_cell hb2 (by (simp [go_sem]; done))
        have f2 : W2.frozen? ⟨w.heap.size + 1, 2, none⟩ = false := below_frozen hb2 (v := .int .u64 0) (by (simp [go_sem]; done)) (by (simp [go_sem]; done))
        have m3 : W2.cell? ⟨w.heap.size + 1, 3, none⟩ = some (.int .u64 0) := below_cell hb2 (by (simp [go_sem]; done))
        have f3 : W2.frozen? ⟨w.heap.size + 1, 3, none⟩ = false := below_frozen hb2 (v := .int .u64 0) (by (simp [go_sem]; done)) (by (simp [go_sem]; done))
        have m4 : W2.cell? ⟨w.heap.size + 1 + 1, 0, none⟩ = some (.int .u64 a0) := below_cell hb2 (by (simp [go_sem]; done))
        have f4 : W2.frozen? ⟨w.heap.size + 1 + 1, 0, none⟩ = false := below_frozen hb2 (v := .int .u64 a0) (by (simp [go_sem]; done)) (by (simp [go_sem]; done))
        have m5 : W2.cell? ⟨w.heap.size + 1 + 1, 1, none⟩ = some (.int .u64 a1) := below_cell hb2 (by (simp [go_sem]; done))
        have f5 : W2.frozen? ⟨w.heap.size + 1 + 1, 1, none⟩ = false := below_frozen hb2 (v := .int .u64 a1) (by (simp [go_sem]; done)) (by (simp [go_sem]; done))
        have m6 : W2.cell? ⟨w.heap.size + 1 + 1, 2, none⟩ = some (.int .u64 a2) := below_cell hb2 (by (simp [go_sem]; done))
        have f6 : W2.frozen? ⟨w.heap.size + 1 + 1, 2, none⟩ = false := below_frozen hb2 (v := .int .u64 a2) (by (simp [go_sem]; done)) (by (simp [go_sem]; done))
        have m7 : W2.cell? ⟨w.heap.size + 1 + 1, 3, none⟩ = some (.int .u64 a3) := below_cell hb2 (by (simp [go_sem]; done))
        have f7 : W2.frozen? ⟨w.heap.size + 1 + 1, 3, none⟩ = false := below_frozen hb2 (v := .int .u64 a3) (by (simp [go_sem]; done)) (by (simp [go_sem]; done))
        clear l0 l1 l2 l3 l4 l5 l6 l7 l8 l9 l10 l11 hW2 hC1 hC2 C
        go_wp2_with fail
        refine bodyPost_ret (v := .tuple #[.agg #[.int .u64 a0, .int .u64 a1, .int .u64 a2, .int .u64 a3], .int .i64 0]) (by simp [results, Try.results86, go_sem, m0, m1, m2, m3]) rfl ⟨rfl, ?_⟩
        exact (((((below_trans (by go_grown) hb2)).setCell (by simp <;> omega) _).setCell (by simp <;> omega) _).setCell (by simp <;> omega) _).setCell (by simp <;> omega) _
      · replace hF := hF true
        have hr : fitZ (sgZ m true) = sgZ m true := by unfold fitZ; rw [if_pos hF]
        have hs : errZ (sgZ m true) = 0 := by unfold errZ; rw [if_pos hF]
        rw [hr, hs]
        clear hr hs
        have hN : negZ (sv a0 a1 a2 a3) = sgZ m true := by
          have hsg : sgZ m true = -m := rfl
          have hA := hva.out
          rw [hsv, hsg]; unfold negZ
          unfold ngB at hA; simp only [decide_eq_false_iff_not] at hA; unfold Wd at *; split <;> omega
        rw [hN] at ht
        obtain ⟨r0, r1, r2, r3, hr0, hr1, hr2, hr3, hrr, eR⟩ := iV_words (sgZ m true) hF
        rw [eR] at ht
        rw [eR]
        clear hN hrr eR hr0 hr1 hr2 hr3 hF hm4 hIV
        clear hsv
        go_enter Try.func86, Try.ntmps86
        go_wp2_with fail
        refine region_below (by kernel_rfl) (by kernel_rfl) (fun C hC1 hC2 => ?_)
        have l0 : ∀ w', C w' → w'.cell? ⟨w.heap.size, 0, none⟩ = some (.int .u64 a0) := class_cell hC1 (by (simp [go_sem]; done))
        have l1 : ∀ w', C w' → w'.cell? ⟨w.heap.size, 1, none⟩ = some (.int .u64 a1) := class_cell hC1 (by (simp [go_sem]; done))
        have l2 : ∀ w', C w' → w'.cell? ⟨w.heap.size, 2, none⟩ = some (.int .u64 a2) := class_cell hC1 (by (simp [go_sem]; done))
        have l3 : ∀ w', C w' → w'.cell? ⟨w.heap.size, 3, none⟩ = some (.int .u64 a3) := class_cell hC1 (by (simp [go_sem]; done))
        have l4 : ∀ w', C w' → w'.cell? ⟨w.heap.size, 4, none⟩ = some (.int .u64 a4) := class_cell hC1 (by (simp [go_sem]; done))
        have l5 : ∀ w', C w' → w'.cell? ⟨w.heap.size, 5, none⟩ = some (.int .u64 a5) := class_cell hC1 (by (simp [go_sem]; done))
        have l6 : ∀ w', C w' → w'.cell? ⟨w.heap.size, 6, none⟩ = some (.int .u64 a6) := class_cell hC1 (by (simp [go_sem]; done))
        have l7 : ∀ w', C w' → w'.cell? ⟨w.heap.size, 7, none⟩ = some (.int .u64 a7) := class_cell hC1 (by (simp [go_sem]; done))
        have l8 : ∀ w', C w' → w'.cell? ⟨w.heap.size + 1 + 1, 0, none⟩ = some (.int .u64 a0) := class_cell hC1 (by (simp [go_sem]; done))
        have l9 : ∀ w', C w' → w'.cell? ⟨w.heap.size + 1 + 1, 1, none⟩ = some (.int .u64 a1) := class_cell hC1 (by (simp [go_sem]; done))
        have l10 : ∀ w', C w' → w'.cell? ⟨w.heap.size + 1 + 1, 2, none⟩ = some (.int .u64 a2) := class_cell hC1 (by (simp [go_sem]; done))
        have l11 : ∀ w', C w' → w'.cell? ⟨w.heap.size + 1 + 1, 3, none⟩ = some (.int .u64 a3) := class_cell hC1 (by (simp [go_sem]; done))
        repeat (first
          | go_big_quiet_skip
          | (go_big_quiet_want; go_big_quiet_op; go_big_quiet_on)
          | (go_big_quiet_want; apply quiet_intro; (intro w' hw; simp [go_sem, l0, l1, l2, l3, l4, l5, l6, l7, l8, l9, l10, l11, O1, O2, O3, t0, t1, t2, g1, hq, hw]; with_reducible exact rfl); (go_big_quiet_on; simp only [Act.put, List.setIfInBounds_toArray, List.set_cons_succ, List.set_cons_zero]))
          | (go_big_quiet_want; apply quiet_intro; (intro w' hw; simp [go_sem]; go_at_call 87; refine (below_v _ _ _ _ _ (by assumption) (by assumption) _).mono ?_; rintro e w'' ⟨he, hb⟩; exact ⟨he, hC2 _ _ hw hb⟩); (go_big_quiet_on; simp only [Act.put, List.setIfInBounds_toArray, List.set_cons_succ, List.set_cons_zero])))
        refine wpQuiet_nil ?_
        intro W2 hW2
        have hb2 := hC1 W2 hW2
        have m0 : W2.cell? ⟨w.heap.size + 1, 0, none⟩ = some (.int .u64 0) := below_cell hb2 (by (simp [go_sem]; done))
        have f0 : W2.frozen? ⟨w.heap.size + 1, 0, none⟩ = false := below_frozen hb2 (v := .int .u64 0) (by (simp [go_sem]; done)) (by (simp [go_sem]; done))
        have m1 : W2.cell? ⟨w.heap.size + 1, 1, none⟩ = some (.int .u64 0) := below_cell hb2 (by (simp [go_sem]; done))
        have f1 : W2.frozen? ⟨w.heap.size + 1, 1, none⟩ = false := below_frozen hb2 (v := .int .u64 0) (by (simp [go_sem]; done)) (by (simp [go_sem]; done))
        have m2 : W2.cell? ⟨w.heap.size + 1, 2, none⟩ = some (.int .u64 0) := below_cell hb2 (by (simp [go_sem]; done))
        have f2 : W2.frozen? ⟨w.heap.size + 1, 2, none⟩ = false := below_frozen hb2 (v := .int .u64 0) (by (simp [go_sem]; done)) (by (simp [go_sem]; done))
        have m3 : W2.cell? ⟨w.heap.size + 1, 3, none⟩ = some (.int .u64 0) := below_cell hb2 (by (simp [go_sem]; done))
        have f3 : W2.frozen? ⟨w.heap.size + 1, 3, none⟩ = false := below_frozen hb2 (v := .int .u64 0) (by (simp [go_sem]; done)) (by (simp [go_sem]; done))
        have m4 : W2.cell? ⟨w.heap.size + 1 + 1, 0, none⟩ = some (.int .u64 a0) := below_cell hb2 (by (simp [go_sem]; done))
        have f4 : W2.frozen? ⟨w.heap.size + 1 + 1, 0, none⟩ = false := below_frozen hb2 (v := .int .u64 a0) (by (simp [go_sem]; done)) (by (simp [go_sem]; done))
        have m5 : W2.cell? ⟨w.heap.size + 1 + 1, 1, none⟩ = some (.int .u64 a1) := below_cell hb2 (by (simp [go_sem]; done))
        have f5 : W2.frozen? ⟨w.heap.size + 1 + 1, 1, none⟩ = false := below_frozen hb2 (v := .int .u64 a1) (by (simp [go_sem]; done)) (by (simp [go_sem]; done))
        have m6 : W2.cell? ⟨w.heap.size + 1 + 1, 2, none⟩ = some (.int .u64 a2) := below_cell hb2 (by (simp [go_sem]; done))
        have f6 : W2.frozen? ⟨w.heap.size + 1 + 1, 2, none⟩ = false := below_frozen hb2 (v := .int .u64 a2) (by (simp [go_sem]; done)) (by (simp [go_sem]; done))
        have m7 : W2.cell? ⟨w.heap.size + 1 + 1, 3, none⟩ = some (.int .u64 a3) := below_cell hb2 (by (simp [go_sem]; done))
        have f7 : W2.frozen? ⟨w.heap.size + 1 + 1, 3, none⟩ = false := below_frozen hb2 (v := .int .u64 a3) (by (simp [go_sem]; done)) (by (simp [go_sem]; done))
        clear l0 l1 l2 l3 l4 l5 l6 l7 l8 l9 l10 l11 hW2 hC1 hC2 C
        go_wp2_with fail
        refine (ht _).mono ?_
        rintro e w3 ⟨rfl, hb3⟩
        have p0 : w3.cell? ⟨w.heap.size + 1, 0, none⟩ = some (.int .u64 0) := below_cell hb3 m0
        have q0 : w3.frozen? ⟨w.heap.size + 1, 0, none⟩ = false := below_frozen hb3 m0 f0
        have p1 : w3.cell? ⟨w.heap.size + 1, 1, none⟩ = some (.int .u64 0) := below_cell hb3 m1
        have q1 : w3.frozen? ⟨w.heap.size + 1, 1, none⟩ = false := below_frozen hb3 m1 f1
        have p2 : w3.cell? ⟨w.heap.size + 1, 2, none⟩ = some (.int .u64 0) := below_cell hb3 m2
        have q2 : w3.frozen? ⟨w.heap.size + 1, 2, none⟩ = false := below_frozen hb3 m2 f2
        have p3 : w3.cell? ⟨w.heap.size + 1, 3, none⟩ = some (.int .u64 0) := below_cell hb3 m3
        have q3 : w3.frozen? ⟨w.heap.size + 1, 3, none⟩ = false := below_frozen hb3 m3 f3
        have p4 : w3.cell? ⟨w.heap.size + 1 + 1, 0, none⟩ = some (.int .u64 a0) := below_cell hb3 m4
        have q4 : w3.frozen? ⟨w.heap.size + 1 + 1, 0, none⟩ = false := below_frozen hb3 m4 f4
        have p5 : w3.cell? ⟨w.heap.size + 1 + 1, 1, none⟩ = some (.int .u64 a1) := below_cell hb3 m5
        have q5 : w3.frozen? ⟨w.heap.size + 1 + 1, 1, none⟩ = false := below_frozen hb3 m5 f5
        have p6 : w3.cell? ⟨w.heap.size + 1 + 1, 2, none⟩ = some (.int .u64 a2) := below_cell hb3 m6
        have q6 : w3.frozen? ⟨w.heap.size + 1 + 1, 2, none⟩ = false := below_frozen hb3 m6 f6
        have p7 : w3.cell? ⟨w.heap.size + 1 + 1, 3, none⟩ = some (.int .u64 a3) := below_cell hb3 m7
        have q7 : w3.frozen? ⟨w.heap.size + 1 + 1, 3, none⟩ = false := below_frozen hb3 m7 f7
        clear m0 f0 m1 f1 m2 f2 m3 f3 m4 f4 m5 f5 m6 f6 m7 f7
        go_wp2_with fail
        refine bodyPost_ret (v := .tuple #[.agg #[.int .u64 r0, .int .u64 r1, .int .u64 r2, .int .u64 r3], .int .i64 0]) (by simp [results, Try.results86, go_sem, p0, p1, p2, p3, p4, p5, p6, p7]) rfl ⟨rfl, ?_⟩
        exact (((((((((below_trans (by go_grown) (below_trans hb2 hb3))).setCell (by simp <;> omega) _).setCell (by simp <;> omega) _).setCell (by simp <;> omega) _).setCell (by simp <;> omega) _).setCell (by simp <;> omega) _).setCell (by simp <;> omega) _).setCell (by simp <;> omega) _).setCell (by simp <;> omega) _
    · have hsv : sv a0 a1 a2 a3 = m - 115792089237316195423570985008687907853269984665640564039457584007913129639936 := by
        have hA := hva.out
        unfold ngB at hA; simp only [decide_eq_true_eq] at hA; unfold sv; unfold Wd at *; split <;> omega
      have hmh : 57896044618658097711785492504343953926634992332820282019728792003956564819968 ≤ m := by
        have hA := hva.out
        unfold ngB at hA; simp only [decide_eq_true_eq] at hA; unfold Wd at *; omega
      cases neg
      · clear hq
        have hN : ¬ R256 (sgZ m false) := by
          have hsg : sgZ m false = m := rfl
          rw [hsg]; unfold R256; omega
        have hr : fitZ (sgZ m false) = 0 := by unfold fitZ; rw [if_neg hN]
        have hs : errZ (sgZ m false) = 3 := by unfold errZ; rw [if_neg hN]
        rw [hr, hs, iV_zero]
        clear hsv hr hs hN hIV hm4 ht hmh
        go_enter Try.func86, Try.ntmps86
        go_wp2_with fail
        refine region_below (by kernel_rfl) (by kernel_rfl) (fun C hC1 hC2 => ?_)
        have l0 : ∀ w', C w' → w'.cell? ⟨w.heap.size, 0, none⟩ = some (.int .u64 a0) := class_cell hC1 (by (simp [go_sem]; done))
        have l1 : ∀ w', C w' → w'.cell? ⟨w.heap.size, 1, none⟩ = some (.int .u64 a1) := class_cell hC1 (by (simp [go_sem]; done))
        have l2 : ∀ w', C w' → w'.cell? ⟨w.heap.size, 2, none⟩ = some (.int .u64 a2) := class_cell hC1 (by (simp [go_sem]; done))
        have l3 : ∀ w', C w' → w'.cell? ⟨w.heap.size, 3, none⟩ = some (.int .u64 a3) := class_cell hC1 (by (simp [go_sem]; done))
        have l4 : ∀ w', C w' → w'.cell? ⟨w.heap.size, 4, none⟩ = some (.int .u64 a4) := class_cell hC1 (by (simp [go_sem]; done))
        have l5 : ∀ w', C w' → w'.cell? ⟨w.heap.size, 5, none⟩ = some (.int .u64 a5) := class_cell hC1 (by (simp [go_sem]; done))
        have l6 : ∀ w', C w' → w'.cell? ⟨w.heap.size, 6, none⟩ = some (.int .u64 a6) := class_cell hC1 (by (simp [go_sem]; done))
        have l7 : ∀ w', C w' → w'.cell? ⟨w.heap.size, 7, none⟩ = some (.int .u64 a7) := class_cell hC1 (by (simp [go_sem]; done))
        have l8 : ∀ w', C w' → w'.cell? ⟨w.heap.size + 1 + 1, 0, none⟩ = some (.int .u64 a0) := class_cell hC1 (by (simp [go_sem]; done))
        have l9 : ∀ w', C w' → w'.cell? ⟨w.heap.size + 1 + 1, 1, none⟩ = some (.int .u64 a1) := class_cell hC1 (by (simp [go_sem]; done))
        have l10 : ∀ w', C w' → w'.cell? ⟨w.heap.size + 1 + 1, 2, none⟩ = some (.int .u64 a2) := class_cell hC1 (by (simp [go_sem]; done))
        have l11 : ∀ w', C w' → w'.cell? ⟨w.heap.size + 1 + 1, 3, none⟩ = some (.int .u64 a3) := class_cell hC1 (by (simp [go_sem]; done))
        repeat (first
          | go_big_quiet_skip
          | (go_big_quiet_want; go_big_quiet_op; go_big_quiet_on)
          | (go_big_quiet_want; apply quiet_intro; (intro w' hw; simp [go_sem, l0, l1, l2, l3, l4, l5, l6, l7, l8, l9, l10, l11, O1, O2, O3, t0, t1, t2, g1, hw]; with_reducible exact rfl); (go_big_quiet_on; simp only [Act.put, List.setIfInBounds_toArray, List.set_cons_succ, List.set_cons_zero]))
          | (go_big_quiet_want; apply quiet_intro; (intro w' hw; simp [go_sem]; go_at_call 87; refine (below_v _ _ _ _ _ (by assumption) (by assumption) _).mono ?_; rintro e w'' ⟨he, hb⟩; exact ⟨he, hC2 _ _ hw hb⟩); (go_big_quiet_on; simp only [Act.put, List.setIfInBounds_toArray, List.set_cons_succ, List.set_cons_zero])))
        refine wpQuiet_nil ?_
        intro W2 hW2
        have hb2 := hC1 W2 hW2
        have m0 : W2.cell? ⟨w.heap.size + 1, 0, none⟩ = some (.int .u64 0) := below_cell hb2 (by (simp [go_sem]; done))
        have f0 : W2.frozen? ⟨w.heap.size + 1, 0, none⟩ = false := below_frozen hb2 (v := .int .u64 0) (by (simp [go_sem]; done)) (by (simp [go_sem]; done))
        have m1 : W2.cell? ⟨w.heap.size + 1, 1, none⟩ = some (.int .u64 0) := below_cell hb2 (by (simp [go_sem]; done))
        have f1 : W2.frozen? ⟨w.heap.size + 1, 1, none⟩ = false := below_frozen hb2 (v := .int .u64 0) (by (simp [go_sem]; done)) (by (simp [go_sem]; done))
        have m2 : W2.cell? ⟨w.heap.size + 1, 2, none⟩ = some (.int .u64 0) := below_cell hb2 (by (simp [go_sem]; done))
        have f2 : W2.frozen? ⟨w.heap.size + 1, 2, none⟩ = false := below_frozen hb2 (v := .int .u64 0) (by (simp [go_sem]; done)) (by (simp [go_sem]; done))
        have m3 : W2.cell? ⟨w.heap.size + 1, 3, none⟩ = some (.int .u64 0) := below_cell hb2 (by (simp [go_sem]; done))
        have f3 : W2.frozen? ⟨w.heap.size + 1, 3, none⟩ = false := below_frozen hb2 (v := .int .u64 0) (by (simp [go_sem]; done)) (by (simp [go_sem]; done))
        clear l0 l1 l2 l3 l4 l5 l6 l7 l8 l9 l10 l11 hW2 hC1 hC2 C
        go_wp2_with fail
        refine bodyPost_ret (v := .tuple #[.agg #[.int .u64 0, .int .u64 0, .int .u64 0, .int .u64 0], .int .i64 3]) (by simp [results, Try.results86, go_sem, m0, m1, m2, m3]) rfl ⟨rfl, ?_⟩
        exact (((((below_trans (by go_grown) hb2).setCell (by simp <;> omega) _).setCell (by simp <;> omega) _).setCell (by simp <;> omega) _).setCell (by simp <;> omega) _)
      · have hsg : sgZ m true = -m := rfl
        by_cases hl : sv a0 a1 a2 a3 = -57896044618658097711785492504343953926634992332820282019728792003956564819968
        · have hd1 : decide (sv a0 a1 a2 a3 = -57896044618658097711785492504343953926634992332820282019728792003956564819968) = true := by simpa using hl
          have hF : R256 (sgZ m true) := by rw [hsg]; unfold R256; omega
          have hr : fitZ (sgZ m true) = sgZ m true := by unfold fitZ; rw [if_pos hF]
          have hs : errZ (sgZ m true) = 0 := by unfold errZ; rw [if_pos hF]
          rw [hr, hs]
          clear hr hs
          have hN : negZ (sv a0 a1 a2 a3) = sgZ m true := by
            rw [hsg]; unfold negZ; rw [if_pos hl]; omega
          rw [hN] at ht
          obtain ⟨r0, r1, r2, r3, hr0, hr1, hr2, hr3, hrr, eR⟩ := iV_words (sgZ m true) hF
          rw [eR] at ht
          rw [eR]
          clear hN hrr eR hr0 hr1 hr2 hr3 hF hm4 hIV
          clear hsv hmh hsg hl
          go_enter Try.func86, Try.ntmps86
          go_wp2_with fail
          refine region_below (by kernel_rfl) (by kernel_rfl) (fun C hC1 hC2 => ?_)
          have l0 : ∀ w', C w' → w'.cell? ⟨w.heap.size, 0, none⟩ = some (.int .u64 a0) := class_cell hC1 (by (simp [go_sem]; done))
          have l1 : ∀ w', C w' → w'.cell? ⟨w.heap.size, 1, none⟩ = some (.int .u64 a1) := class_cell hC1 (by (simp [go_sem]; done))
          have l2 : ∀ w', C w' → w'.cell? ⟨w.heap.size, 2, none⟩ = some (.int .u64 a2) := class_cell hC1 (by (simp [go_sem]; done))
          have l3 : ∀ w', C w' → w'.cell? ⟨w.heap.size, 3, none⟩ = some (.int .u64 a3) := class_cell hC1 (by (simp [go_sem]; done))
          have l4 : ∀ w', C w' → w'.cell? ⟨w.heap.size, 4, none⟩ = some (.int .u64 a4) := class_cell hC1 (by (simp [go_sem]; done))
          have l5 : ∀ w', C w' → w'.cell? ⟨w.heap.size, 5, none⟩ = some (.int .u64 a5) := class_cell hC1 (by (simp [go_sem]; done))
          have l6 : ∀ w', C w' → w'.cell? ⟨w.heap.size, 6, none⟩ = some (.int .u64 a6) := class_cell hC1 (by (simp [go_sem]; done))
          have l7 : ∀ w', C w' → w'.cell? ⟨w.heap.size, 7, none⟩ = some (.int .u64 a7) := class_cell hC1 (by (simp [go_sem]; done))
          have l8 : ∀ w', C w' → w'.cell? ⟨w.heap.size + 1 + 1, 0, none⟩ = some (.int .u64 a0) := class_cell hC1 (by (simp [go_sem]; done))
          have l9 : ∀ w', C w' → w'.cell? ⟨w.heap.size + 1 + 1, 1, none⟩ = some (.int .u64 a1) := class_cell hC1 (by (simp [go_sem]; done))
          have l10 : ∀ w', C w' → w'.cell? ⟨w.heap.size + 1 + 1, 2, none⟩ = some (.int .u64 a2) := class_cell hC1 (by (simp [go_sem]; done))
          have l11 : ∀ w', C w' → w'.cell? ⟨w.heap.size + 1 + 1, 3, none⟩ = some (.int .u64 a3) := class_cell hC1 (by (simp [go_sem]; done))
          repeat (first
            | (go_big_quiet_want; go_big_quiet_op; go_big_quiet_on)
            | (go_big_quiet_want; apply quiet_intro; (intro w' hw; simp [go_sem, l0, l1, l2, l3, l4, l5, l6, l7, l8, l9, l10, l11, O1, O2, O3, t0, t1, t2, g1, hq, hd1, hw]; with_reducible exact rfl); (go_big_quiet_on; simp only [Act.put, List.setIfInBounds_toArray, List.set_cons_succ, List.set_cons_zero]))
            | (go_big_quiet_want; apply quiet_intro; (intro w' hw; simp [go_sem]; go_at_call 87; refine (below_v _ _ _ _ _ (by assumption) (by assumption) _).mono ?_; rintro e w'' ⟨he, hb⟩; exact ⟨he, hC2 _ _ hw hb⟩); (go_big_quiet_on; simp only [Act.put, List.setIfInBounds_toArray, List.set_cons_succ, List.set_cons_zero]))
            | (go_big_quiet_want; apply quiet_intro; (intro w' hw; simp [go_sem]; go_at_call 88; refine (least_any _).mono ?_; rintro e w'' ⟨he, hb⟩; exact ⟨he, hC2 _ _ hw hb⟩); (go_big_quiet_on; simp only [Act.put, List.setIfInBounds_toArray, List.set_cons_succ, List.set_cons_zero])))
          refine wpQuiet_nil ?_
          intro W2 hW2
          have hb2 := hC1 W2 hW2
          have m0 : W2.cell? ⟨w.heap.size + 1, 0, none⟩ = some (.int .u64 0) := below_cell hb2 (by (simp [go_sem]; done))
          have f0 : W2.frozen? ⟨w.heap.size + 1, 0, none⟩ = false := below_frozen hb2 (v := .int .u64 0) (by (simp [go_sem]; done)) (by (simp [go_sem]; done))
          have m1 : W2.cell? ⟨w.heap.size + 1, 1, none⟩ = some (.int .u64 0) := below_cell hb2 (by (simp [go_sem]; done))
          have f1 : W2.frozen? ⟨w.heap.size + 1, 1, none⟩ = false := below_frozen hb2 (v := .int .u64 0) (by (simp [go_sem]; done)) (by (simp [go_sem]; done))
          have m2 : W2.cell? ⟨w.heap.size + 1, 2, none⟩ = some (.int .u64 0) := below_cell hb2 (by (simp [go_sem]; done))
          have f2 : W2.frozen? ⟨w.heap.size + 1, 2, none⟩ = false := below_frozen hb2 (v := .int .u64 0) (by (simp [go_sem]; done)) (by (simp [go_sem]; done))
          have m3 : W2.cell? ⟨w.heap.size + 1, 3, none⟩ = some (.int .u64 0) := below_cell hb2 (by (simp [go_sem]; done))
          have f3 : W2.frozen? ⟨w.heap.size + 1, 3, none⟩ = false := below_frozen hb2 (v := .int .u64 0) (by (simp [go_sem]; done)) (by (simp [go_sem]; done))
          have m4 : W2.cell? ⟨w.heap.size + 1 + 1, 0, none⟩ = some (.int .u64 a0) := below_cell hb2 (by (simp [go_sem]; done))
          have f4 : W2.frozen? ⟨w.heap.size + 1 + 1, 0, none⟩ = false := below_frozen hb2 (v := .int .u64 a0) (by (simp [go_sem]; done)) (by (simp [go_sem]; done))
          have m5 : W2.cell? ⟨w.heap.size + 1 + 1, 1, none⟩ = some (.int .u64 a1) := below_cell hb2 (by (simp [go_sem]; done))
          have f5 : W2.frozen? ⟨w.heap.size + 1 + 1, 1, none⟩ = false := below_frozen hb2 (v := .int .u64 a1) (by (simp [go_sem]; done)) (by (simp [go_sem]; done))
          have m6 : W2.cell? ⟨w.heap.size + 1 + 1, 2, none⟩ = some (.int .u64 a2) := below_cell hb2 (by (simp [go_sem]; done))
          have f6 : W2.frozen? ⟨w.heap.size + 1 + 1, 2, none⟩ = false := below_frozen hb2 (v := .int .u64 a2) (by (simp [go_sem]; done)) (by (simp [go_sem]; done))
          have m7 : W2.cell? ⟨w.heap.size + 1 + 1, 3, none⟩ = some (.int .u64 a3) := below_cell hb2 (by (simp [go_sem]; done))
          have f7 : W2.frozen? ⟨w.heap.size + 1 + 1, 3, none⟩ = false := below_frozen hb2 (v := .int .u64 a3) (by (simp [go_sem]; done)) (by (simp [go_sem]; done))
          clear l0 l1 l2 l3 l4 l5 l6 l7 l8 l9 l10 l11 hW2 hC1 hC2 C
          go_wp2_with fail
          refine (ht _).mono ?_
          rintro e w3 ⟨rfl, hb3⟩
          have p0 : w3.cell? ⟨w.heap.size + 1, 0, none⟩ = some (.int .u64 0) := below_cell hb3 m0
          have q0 : w3.frozen? ⟨w.heap.size + 1, 0, none⟩ = false := below_frozen hb3 m0 f0
          have p1 : w3.cell? ⟨w.heap.size + 1, 1, none⟩ = some (.int .u64 0) := below_cell hb3 m1
          have q1 : w3.frozen? ⟨w.heap.size + 1, 1, none⟩ = false := below_frozen hb3 m1 f1
          have p2 : w3.cell? ⟨w.heap.size + 1, 2, none⟩ = some (.int .u64 0) := below_cell hb3 m2
          have q2 : w3.frozen? ⟨w.heap.size + 1, 2, none⟩ = false := below_frozen hb3 m2 f2
          have p3 : w3.cell? ⟨w.heap.size + 1, 3, none⟩ = some (.int .u64 0) := below_cell hb3 m3
          have q3 : w3.frozen? ⟨w.heap.size + 1, 3, none⟩ = false := below_frozen hb3 m3 f3
          have p4 : w3.cell? ⟨w.heap.size + 1 + 1, 0, none⟩ = some (.int .u64 a0) := below_cell hb3 m4
          have q4 : w3.frozen? ⟨w.heap.size + 1 + 1, 0, none⟩ = false := below_frozen hb3 m4 f4
          have p5 : w3.cell? ⟨w.heap.size + 1 + 1, 1, none⟩ = some (.int .u64 a1) := below_cell hb3 m5
          have q5 : w3.frozen? ⟨w.heap.size + 1 + 1, 1, none⟩ = false := below_frozen hb3 m5 f5
          have p6 : w3.cell? ⟨w.heap.size + 1 + 1, 2, none⟩ = some (.int .u64 a2) := below_cell hb3 m6
          have q6 : w3.frozen? ⟨w.heap.size + 1 + 1, 2, none⟩ = false := below_frozen hb3 m6 f6
          have p7 : w3.cell? ⟨w.heap.size + 1 + 1, 3, none⟩ = some (.int .u64 a3) := below_cell hb3 m7
          have q7 : w3.frozen? ⟨w.heap.size + 1 + 1, 3, none⟩ = false := below_frozen hb3 m7 f7
          clear m0 f0 m1 f1 m2 f2 m3 f3 m4 f4 m5 f5 m6 f6 m7 f7
          go_wp2_with fail
          refine bodyPost_ret (v := .tuple #[.agg #[.int .u64 r0, .int .u64 r1, .int .u64 r2, .int .u64 r3], .int .i64 0]) (by simp [results, Try.results86, go_sem, p0, p1, p2, p3, p4, p5, p6, p7]) rfl ⟨rfl, ?_⟩
          exact (((((((((below_trans (by go_grown) (below_trans hb2 hb3))).setCell (by simp <;> omega) _).setCell (by simp <;> omega) _).setCell (by simp <;> omega) _).setCell (by simp <;> omega) _).setCell (by simp <;> omega) _).setCell (by simp <;> omega) _).setCell (by simp <;> omega) _).setCell (by simp <;> omega) _
        · have hd1 : decide (sv a0 a1 a2 a3 = -57896044618658097711785492504343953926634992332820282019728792003956564819968) = false := by simpa using hl
          have hN : ¬ R256 (sgZ m true) := by
            rw [hsg]; unfold R256; omega
          have hr : fitZ (sgZ m true) = 0 := by unfold fitZ; rw [if_neg hN]
          have hs : errZ (sgZ m true) = 3 := by unfold errZ; rw [if_neg hN]
          rw [hr, hs, iV_zero]
          clear hsv hsg hr hs hN hIV hm4 ht hmh
          clear hl
          go_enter Try.func86, Try.ntmps86
          go_wp2_with fail
          refine region_below (by kernel_rfl) (by kernel_rfl) (fun C hC1 hC2 => ?_)
          have l0 : ∀ w', C w' → w'.cell? ⟨w.heap.size, 0, none⟩ = some (.int .u64 a0) := class_cell hC1 (by (simp [go_sem]; done))
          have l1 : ∀ w', C w' → w'.cell? ⟨w.heap.size, 1, none⟩ = some (.int .u64 a1) := class_cell hC1 (by (simp [go_sem]; done))
          have l2 : ∀ w', C w' → w'.cell? ⟨w.heap.size, 2, none⟩ = some (.int .u64 a2) := class_cell hC1 (by (simp [go_sem]; done))
          have l3 : ∀ w', C w' → w'.cell? ⟨w.heap.size, 3, none⟩ = some (.int .u64 a3) := class_cell hC1 (by (simp [go_sem]; done))
          have l4 : ∀ w', C w' → w'.cell? ⟨w.heap.size, 4, none⟩ = some (.int .u64 a4) := class_cell hC1 (by (simp [go_sem]; done))
          have l5 : ∀ w', C w' → w'.cell? ⟨w.heap.size, 5, none⟩ = some (.int .u64 a5) := class_cell hC1 (by (simp [go_sem]; done))
          have l6 : ∀ w', C w' → w'.cell? ⟨w.heap.size, 6, none⟩ = some (.int .u64 a6) := class_cell hC1 (by (simp [go_sem]; done))
          have l7 : ∀ w', C w' → w'.cell? ⟨w.heap.size, 7, none⟩ = some (.int .u64 a7) := class_cell hC1 (by (simp [go_sem]; done))
          have l8 : ∀ w', C w' → w'.cell? ⟨w.heap.size + 1 + 1, 0, none⟩ = some (.int .u64 a0) := class_cell hC1 (by (simp [go_sem]; done))
          have l9 : ∀ w', C w' → w'.cell? ⟨w.heap.size + 1 + 1, 1, none⟩ = some (.int .u64 a1) := class_cell hC1 (by (simp [go_sem]; done))
          have l10 : ∀ w', C w' → w'.cell? ⟨w.heap.size + 1 + 1, 2, none⟩ = some (.int .u64 a2) := class_cell hC1 (by (simp [go_sem]; done))
          have l11 : ∀ w', C w' → w'.cell? ⟨w.heap.size + 1 + 1, 3, none⟩ = some (.int .u64 a3) := class_cell hC1 (by (simp [go_sem]; done))
          repeat (first
            | (go_big_quiet_want; go_big_quiet_op; go_big_quiet_on)
            | (go_big_quiet_want; apply quiet_intro; (intro w' hw; simp [go_sem, l0, l1, l2, l3, l4, l5, l6, l7, l8, l9, l10, l11, O1, O2, O3, t0, t1, t2, g1, hq, hd1, hw]; with_reducible exact rfl); (go_big_quiet_on; simp only [Act.put, List.setIfInBounds_toArray, List.set_cons_succ, List.set_cons_zero]))
            | (go_big_quiet_want; apply quiet_intro; (intro w' hw; simp [go_sem]; go_at_call 87; refine (below_v _ _ _ _ _ (by assumption) (by assumption) _).mono ?_; rintro e w'' ⟨he, hb⟩; exact ⟨he, hC2 _ _ hw hb⟩); (go_big_quiet_on; simp only [Act.put, List.setIfInBounds_toArray, List.set_cons_succ, List.set_cons_zero]))
            | (go_big_quiet_want; apply quiet_intro; (intro w' hw; simp [go_sem]; go_at_call 88; refine (least_any _).mono ?_; rintro e w'' ⟨he, hb⟩; exact ⟨he, hC2 _ _ hw hb⟩); (go_big_quiet_on; simp only [Act.put, List.setIfInBounds_toArray, List.set_cons_succ, List.set_cons_zero])))
          refine wpQuiet_nil ?_
          intro W2 hW2
          have hb2 := hC1 W2 hW2
          have m0 : W2.cell? ⟨w.heap.size + 1, 0, none⟩ = some (.int .u64 0) := below_cell hb2 (by (simp [go_sem]; done))
          have f0 : W2.frozen? ⟨w.heap.size + 1, 0, none⟩ = false := below_frozen hb2 (v := .int .u64 0) (by (simp [go_sem]; done)) (by (simp [go_sem]; done))
          have m1 : W2.cell? ⟨w.heap.size + 1, 1, none⟩ = some (.int .u64 0) := below_cell hb2 (by (simp [go_sem]; done))
          have f1 : W2.frozen? ⟨w.heap.size + 1, 1, none⟩ = false := below_frozen hb2 (v := .int .u64 0) (by (simp [go_sem]; done)) (by (simp [go_sem]; done))
          have m2 : W2.cell? ⟨w.heap.size + 1, 2, none⟩ = some (.int .u64 0) := below_cell hb2 (by (simp [go_sem]; done))
          have f2 : W2.frozen? ⟨w.heap.size + 1, 2, none⟩ = false := below_frozen hb2 (v := .int .u64 0) (by (simp [go_sem]; done)) (by (simp [go_sem]; done))
          have m3 : W2.cell? ⟨w.heap.size + 1, 3, none⟩ = some (.int .u64 0) := below_cell hb2 (by (simp [go_sem]; done))
          have f3 : W2.frozen? ⟨w.heap.size + 1, 3, none⟩ = false := below_frozen hb2 (v := .int .u64 0) (by (simp [go_sem]; done)) (by (simp [go_sem]; done))
          clear l0 l1 l2 l3 l4 l5 l6 l7 l8 l9 l10 l11 hW2 hC1 hC2 C
          go_wp2_with fail
          refine bodyPost_ret (v := .tuple #[.agg #[.int .u64 0, .int .u64 0, .int .u64 0, .int .u64 0], .int .i64 3]) (by simp [results, Try.results86, go_sem, m0, m1, m2, m3]) rfl ⟨rfl, ?_⟩
          exact (((((below_trans (by go_grown) hb2).setCell (by simp <;> omega) _).setCell (by simp <;> omega) _).setCell (by simp <;> omega) _).setCell (by simp <;> omega) _)
  · have t0 : decide (o3 = 0) = false := by simpa using hz
    have t1 : (o3 == 0) = false := by simpa using hz
    have t2 : (o3 != 0) = true := by simpa using hz
    have hN : ¬ R256 (sgZ m neg) := by
      obtain ⟨i1, i2, i3⟩ := IFF.out
      have hnz : ¬ (a4 = 0 ∧ a5 = 0 ∧ a6 = 0 ∧ a7 = 0) := fun ⟨h4, h5, h6, h7⟩ => hz (i3.2 ⟨i2.2 ⟨i1.2 ⟨h4, h5⟩, h6⟩, h7⟩)
      rw [← hmm]
      clear i1 i2 i3 hq ht hm hIV
      unfold sgZ R256 mv
      unfold Wd at *
      split <;> omega
    have hr : fitZ (sgZ m neg) = 0 := by unfold fitZ; rw [if_neg hN]
    have hs : errZ (sgZ m neg) = 3 := by unfold errZ; rw [if_neg hN]
    rw [hr, hs, iV_zero]
    clear hr hs hN hmm hIV
    clear IFF hz
    go_enter Try.func86, Try.ntmps86
    go_wp2_with fail
    refine region_below (by kernel_rfl) (by kernel_rfl) (fun C hC1 hC2 => ?_)
    have l0 : ∀ w', C w' → w'.cell? ⟨w.heap.size, 0, none⟩ = some (.int .u64 a0) := class_cell hC1 (by (simp [go_sem]; done))
    have l1 : ∀ w', C w' → w'.cell? ⟨w.heap.size, 1, none⟩ = some (.int .u64 a1) := class_cell hC1 (by (simp [go_sem]; done))
    have l2 : ∀ w', C w' → w'.cell? ⟨w.heap.size, 2, none⟩ = some (.int .u64 a2) := class_cell hC1 (by (simp [go_sem]; done))
    have l3 : ∀ w', C w' → w'.cell? ⟨w.heap.size, 3, none⟩ = some (.int .u64 a3) := class_cell hC1 (by (simp [go_sem]; done))
    have l4 : ∀ w', C w' → w'.cell? ⟨w.heap.size, 4, none⟩ = some (.int .u64 a4) := class_cell hC1 (by (simp [go_sem]; done))
    have l5 : ∀ w', C w' → w'.cell? ⟨w.heap.size, 5, none⟩ = some (.int .u64 a5) := class_cell hC1 (by (simp [go_sem]; done))
    have l6 : ∀ w', C w' → w'.cell? ⟨w.heap.size, 6, none⟩ = some (.int .u64 a6) := class_cell hC1 (by (simp [go_sem]; done))
    have l7 : ∀ w', C w' → w'.cell? ⟨w.heap.size, 7, none⟩ = some (.int .u64 a7) := class_cell hC1 (by (simp [go_sem]; done))
    have l8 : ∀ w', C w' → w'.cell? ⟨w.heap.size + 1 + 1, 0, none⟩ = some (.int .u64 a0) := class_cell hC1 (by (simp [go_sem]; done))
    have l9 : ∀ w', C w' → w'.cell? ⟨w.heap.size + 1 + 1, 1, none⟩ = some (.int .u64 a1) := class_cell hC1 (by (simp [go_sem]; done))
    have l10 : ∀ w', C w' → w'.cell? ⟨w.heap.size + 1 + 1, 2, none⟩ = some (.int .u64 a2) := class_cell hC1 (by (simp [go_sem]; done))
    have l11 : ∀ w', C w' → w'.cell? ⟨w.heap.size + 1 + 1, 3, none⟩ = some (.int .u64 a3) := class_cell hC1 (by (simp [go_sem]; done))
    repeat (first
      | go_big_quiet_skip
      | (go_big_quiet_want; go_big_quiet_op; go_big_quiet_on)
      | (go_big_quiet_want; apply quiet_intro; (intro w' hw; simp [go_sem, l0, l1, l2, l3, l4, l5, l6, l7, l8, l9, l10, l11, O1, O2, O3, t0, t1, t2, g1, hq, hw]; with_reducible exact rfl); (go_big_quiet_on; simp only [Act.put, List.setIfInBounds_toArray, List.set_cons_succ, List.set_cons_zero])))
    refine wpQuiet_nil ?_
    intro W2 hW2
    have hb2 := hC1 W2 hW2
    have m0 : W2.cell? ⟨w.heap.size + 1, 0, none⟩ = some (.int .u64 0) := below_cell hb2 (by (simp [go_sem]; done))
    have f0 : W2.frozen? ⟨w.heap.size + 1, 0, none⟩ = false := below_frozen hb2 (v := .int .u64 0) (by (simp [go_sem]; done)) (by (simp [go_sem]; done))
    have m1 : W2.cell? ⟨w.heap.size + 1, 1, none⟩ = some (.int .u64 0) := below_cell hb2 (by (simp [go_sem]; done))
    have f1 : W2.frozen? ⟨w.heap.size + 1, 1, none⟩ = false := below_frozen hb2 (v := .int .u64 0) (by (simp [go_sem]; done)) (by (simp [go_sem]; done))
    have m2 : W2.cell? ⟨w.heap.size + 1, 2, none⟩ = some (.int .u64 0) := below_cell hb2 (by (simp [go_sem]; done))
    have f2 : W2.frozen? ⟨w.heap.size + 1, 2, none⟩ = false := below_frozen hb2 (v := .int .u64 0) (by (simp [go_sem]; done)) (by (simp [go_sem]; done))
    have m3 : W2.cell? ⟨w.heap.size + 1, 3, none⟩ = some (.int .u64 0) := below_cell hb2 (by (simp [go_sem]; done))
    have f3 : W2.frozen? ⟨w.heap.size + 1, 3, none⟩ = false := below_frozen hb2 (v := .int .u64 0) (by (simp [go_sem]; done)) (by (simp [go_sem]; done))
    clear l0 l1 l2 l3 l4 l5 l6 l7 l8 l9 l10 l11 hW2 hC1 hC2 C
    go_wp2_with fail
    refine bodyPost_ret (v := .tuple #[.agg #[.int .u64 0, .int .u64 0, .int .u64 0, .int .u64 0], .int .i64 3]) (by simp [results, Try.results86, go_sem, m0, m1, m2, m3]) rfl ⟨rfl, ?_⟩
    exact (((((below_trans (by go_grown) hb2).setCell (by simp <;> omega) _).setCell (by simp <;> omega) _).setCell (by simp <;> omega) _).setCell (by simp <;> omega) _)
end Go.Proofs.Ytmmieilogpmocaa
