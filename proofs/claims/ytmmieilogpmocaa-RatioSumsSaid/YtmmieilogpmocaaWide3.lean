/-
  The walks of layer 3 (wide): Add, Sub.
-/
import Derived.Test.YtmmieilogpmocaaWide2
namespace Go.Proofs.Ytmmieilogpmocaa
set_option linter.unusedVariables false
open Go.RowKit

theorem sub_plain {a0 a1 a2 a3 b0 b1 b2 b3 r0 r1 r2 r3 q0 q1 q2 q3 : Int} (ha0 : Wd a0) (ha1 : Wd a1) (ha2 : Wd a2) (ha3 : Wd a3) (hb0 : Wd b0) (hb1 : Wd b1) (hb2 : Wd b2) (hb3 : Wd b3)
    (h0 : Wd r0) (h1 : Wd r1) (h2 : Wd r2) (h3 : Wd r3) (k0 : 0 ≤ q0 ∧ q0 ≤ 1) (k1 : 0 ≤ q1 ∧ q1 ≤ 1) (k2 : 0 ≤ q2 ∧ q2 ≤ 1) (k3 : 0 ≤ q3 ∧ q3 ≤ 1)
    (E0 : r0 - 18446744073709551616 * q0 = a0 - b0 - 0) (E1 : r1 - 18446744073709551616 * q1 = a1 - b1 - q0)
    (E2 : r2 - 18446744073709551616 * q2 = a2 - b2 - q1) (E3 : r3 - 18446744073709551616 * q3 = a3 - b3 - q2) :
    (ngB a3 = (!ngB b3) → ngB r3 ≠ ngB a3 → ¬ R256 (sv a0 a1 a2 a3 - sv b0 b1 b2 b3)) ∧
    ((ngB a3 = (!ngB b3) → ngB r3 = ngB a3) → sv r0 r1 r2 r3 = sv a0 a1 a2 a3 - sv b0 b1 b2 b3) := by
  unfold Wd at *
  unfold ngB R256 sv
  simp only [← decide_not, decide_eq_decide, ne_eq]
  constructor
  · intro g1 g2
    split <;> split <;> omega
  · intro g
    split <;> split <;> split <;> omega
set_option maxRecDepth 100000 in
set_option maxHeartbeats 2000000 in
theorem add_any (x y : Int) (hx : R256 x) (hy : R256 y) (w : World) :
    Calls Try.prog 83 #[iV x, iV y] w fun e w' => e = .returned (.tuple #[iV (fitZ (x + y)), .int .i64 (errZ (x + y))]) ∧ Below w.heap.size w w' := by
  obtain ⟨a0, a1, a2, a3, ha0, ha1, ha2, ha3, hxx, eX⟩ := iV_words x hx
  obtain ⟨b0, b1, b2, b3, hb0, hb1, hb2, hb3, hyy, eY⟩ := iV_words y hy
  rw [eX, eY]
  obtain ⟨r0, q0, A0, hr0, hq0, E0⟩ := add64_ex a0 b0 0 ha0 hb0 (by omega) (by omega)
  obtain ⟨r1, q1, A1, hr1, hq1, E1⟩ := add64_ex a1 b1 q0 ha1 hb1 hq0.1 hq0.2
  obtain ⟨r2, q2, A2, hr2, hq2, E2⟩ := add64_ex a2 b2 q1 ha2 hb2 hq1.1 hq1.2
  obtain ⟨r3, q3, A3, hr3, hq3, E3⟩ := add64_ex a3 b3 q2 ha3 hb3 hq2.1 hq2.2
  have hp := add_plain ha0 ha1 ha2 ha3 hb0 hb1 hb2 hb3 hr0 hr1 hr2 hr3 hq0 hq1 hq2 hq3 E0.out E1.out E2.out E3.out
  rw [hxx, hyy] at hp
  have hres := iV_sv hr0 hr1 hr2 hr3
  have hrr := sv_range hr0 hr1 hr2 hr3
  have S : ∀ d, Wd d → ∃ v, Hid (ngB d = v) := fun d _ => ⟨_, Lib.hid rfl⟩
  obtain ⟨va, hva⟩ := S a3 ha3
  obtain ⟨vb, hvb⟩ := S b3 hb3
  obtain ⟨vr, hvr⟩ := S r3 hr3
  rw [hva.out, hvb.out, hvr.out] at hp
  have HP := Lib.hid hp
  have HR := Lib.hid hres
  have HRR := Lib.hid hrr
  clear hp S hres hrr eX eY hxx hyy E0 E1 E2 E3
  go_enter Try.func83, Try.ntmps83
  go_wp2
  refine wp_loop_rounds 5 ?_
  rw [rounds_succ]
  go_wp2_with fail
  go_region_held3 (fun w' => w'.cell? ⟨w.heap.size, 0, none⟩ = some (.int .u64 a0) ∧ w'.cell? ⟨w.heap.size + 1, 0, none⟩ = some (.int .u64 b0)) (simp [go_sem, World.cell?_alloc_past]) (fail)
  go_wp2_with fail
  rename_i hh
  clear hh
  rw [rounds_succ]
  go_wp2_with fail
  go_region_held3 (fun w' => w'.cell? ⟨w.heap.size, 1, none⟩ = some (.int .u64 a1) ∧ w'.cell? ⟨w.heap.size + 1, 1, none⟩ = some (.int .u64 b1)) (simp [go_sem, World.cell?_alloc_past]) (fail)
  go_wp2_with fail
  rename_i hh
  clear hh
  rw [rounds_succ]
  go_wp2_with fail
  go_region_held3 (fun w' => w'.cell? ⟨w.heap.size, 2, none⟩ = some (.int .u64 a2) ∧ w'.cell? ⟨w.heap.size + 1, 2, none⟩ = some (.int .u64 b2)) (simp [go_sem, World.cell?_alloc_past]) (fail)
  go_wp2_with fail
  rename_i hh
  clear hh
  rw [rounds_succ]
  go_wp2_with fail
  go_region_held3 (fun w' => w'.cell? ⟨w.heap.size, 3, none⟩ = some (.int .u64 a3) ∧ w'.cell? ⟨w.heap.size + 1, 3, none⟩ = some (.int .u64 b3)) (simp [go_sem, World.cell?_alloc_past]) (fail)
  go_wp2_with fail
  rename_i hh
  clear hh
  rw [rounds_succ]
  go_wp2_with fail
  clear A0 A1 A2 A3
  by_cases hab : vb = va
  · subst hab
    by_cases har : vr = vb
    · subst har
      refine region_below (by kernel_rfl) (by kernel_rfl) (fun C hC1 hC2 => ?_)
      have l0 : ∀ w', C w' → w'.cell? ⟨w.heap.size, 0, none⟩ = some (.int .u64 a0) := class_cell hC1 (by (simp [go_sem]; done))
      have l1 : ∀ w', C w' → w'.cell? ⟨w.heap.size, 1, none⟩ = some (.int .u64 a1) := class_cell hC1 (by (simp [go_sem]; done))
      have l2 : ∀ w', C w' → w'.cell? ⟨w.heap.size, 2, none⟩ = some (.int .u64 a2) := class_cell hC1 (by (simp [go_sem]; done))
      have l3 : ∀ w', C w' → w'.cell? ⟨w.heap.size, 3, none⟩ = some (.int .u64 a3) := class_cell hC1 (by (simp [go_sem]; done))
      have l4 : ∀ w', C w' → w'.cell? ⟨w.heap.size + 1, 0, none⟩ = some (.int .u64 b0) := class_cell hC1 (by (simp [go_sem]; done))
      have l5 : ∀ w', C w' → w'.cell? ⟨w.heap.size + 1, 1, none⟩ = some (.int .u64 b1) := class_cell hC1 (by (simp [go_sem]; done))
      have l6 : ∀ w', C w' → w'.cell? ⟨w.heap.size + 1, 2, none⟩ = some (.int .u64 b2) := class_cell hC1 (by (simp [go_sem]; done))
      have l7 : ∀ w', C w' → w'.cell? ⟨w.heap.size + 1, 3, none⟩ = some (.int .u64 b3) := class_cell hC1 (by (simp [go_sem]; done))
      have l8 : ∀ w', C w' → w'.cell? ⟨w.heap.size + 1 + 1 + 1, 0, none⟩ = some (.int .u64 r0) := class_cell hC1 (by (simp [go_sem]; done))
      have l9 : ∀ w', C w' → w'.cell? ⟨w.heap.size + 1 + 1 + 1, 1, none⟩ = some (.int .u64 r1) := class_cell hC1 (by (simp [go_sem]; done))
      have l10 : ∀ w', C w' → w'.cell? ⟨w.heap.size + 1 + 1 + 1, 2, none⟩ = some (.int .u64 r2) := class_cell hC1 (by (simp [go_sem]; done))
      have l11 : ∀ w', C w' → w'.cell? ⟨w.heap.size + 1 + 1 + 1, 3, none⟩ = some (.int .u64 r3) := class_cell hC1 (by (simp [go_sem]; done))
      repeat (first
        | (go_big_quiet_want; go_big_quiet_op; go_big_quiet_on)
        | (go_big_quiet_want; apply quiet_intro; (intro w' hw; simp [go_sem, l0, l1, l2, l3, l4, l5, l6, l7, l8, l9, l10, l11, hw]; with_reducible exact rfl); (go_big_quiet_on; simp only [Act.put, List.setIfInBounds_toArray, List.set_cons_succ, List.set_cons_zero]))
        | (go_big_quiet_want; apply quiet_intro; (intro w' hw; simp [go_sem]; go_at_call 87; refine (below_v _ _ _ _ _ (by assumption) (by assumption) _).mono ?_; rintro e w'' ⟨he, hb⟩; exact ⟨he, hC2 _ _ hw hb⟩); (go_big_quiet_on; simp only [Act.put, List.setIfInBounds_toArray, List.set_cons_succ, List.set_cons_zero])))
      refine wpQuiet_nil ?_
      intro W2 hW2
      have hb2 := hC1 W2 hW2
      have m0 : W2.cell? ⟨w.heap.size + 1 + 1, 0, none⟩ = some (.int .u64 0) := below_cell hb2 (by (simp [go_sem]; done))
      have f0 : W2.frozen? ⟨w.heap.size + 1 + 1, 0, none⟩ = false := below_frozen hb2 (v := .int .u64 0) (by (simp [go_sem]; done)) (by (simp [go_sem]; done))
      have m1 : W2.cell? ⟨w.heap.size + 1 + 1, 1, none⟩ = some (.int .u64 0) := below_cell hb2 (by (simp [go_sem]; done))
      have f1 : W2.frozen? ⟨w.heap.size + 1 + 1, 1, none⟩ = false := below_frozen hb2 (v := .int .u64 0) (by (simp [go_sem]; done)) (by (simp [go_sem]; done))
      have m2 : W2.cell? ⟨w.heap.size + 1 + 1, 2, none⟩ = some (.int .u64 0) := below_cell hb2 (by (simp [go_sem]; done))
      have f2 : W2.frozen? ⟨w.heap.size + 1 + 1, 2, none⟩ = false := below_frozen hb2 (v := .int .u64 0) (by (simp [go_sem]; done)) (by (simp [go_sem]; done))
      have m3 : W2.cell? ⟨w.heap.size + 1 + 1, 3, none⟩ = some (.int .u64 0) := below_cell hb2 (by (simp [go_sem]; done))
      have f3 : W2.frozen? ⟨w.heap.size + 1 + 1, 3, none⟩ = false := below_frozen hb2 (v := .int .u64 0) (by (simp [go_sem]; done)) (by (simp [go_sem]; done))
      have m4 : W2.cell? ⟨w.heap.size + 1 + 1 + 1, 0, none⟩ = some (.int .u64 r0) := below_cell hb2 (by (simp [go_sem]; done))
      have f4 : W2.frozen? ⟨w.heap.size + 1 + 1 + 1, 0, none⟩ = false := below_frozen hb2 (v := .int .u64 r0) (by (simp [go_sem]; done)) (by (simp [go_sem]; done))
      have m5 : W2.cell? ⟨w.heap.size + 1 + 1 + 1, 1, none⟩ = some (.int .u64 r1) := below_cell hb2 (by (simp [go_sem]; done))
      have f5 : W2.frozen? ⟨w.heap.size + 1 + 1 + 1, 1, none⟩ = false := below_frozen hb2 (v := .int .u64 r1) (by (simp [go_sem]; done)) (by (simp [go_sem]; done))
      have m6 : W2.cell? ⟨w.heap.size + 1 + 1 + 1, 2, none⟩ = some (.int .u64 r2) := below_cell hb2 (by (simp [go_sem]; done))
      have f6 : W2.frozen? ⟨w.heap.size + 1 + 1 + 1, 2, none⟩ = false := below_frozen hb2 (v := .int .u64 r2) (by (simp [go_sem]; done)) (by (simp [go_sem]; done))
      have m7 : W2.cell? ⟨w.heap.size + 1 + 1 + 1, 3, none⟩ = some (.int .u64 r3) := below_cell hb2 (by (simp [go_sem]; done))
      have f7 : W2.frozen? ⟨w.heap.size + 1 + 1 + 1, 3, none⟩ = false := below_frozen hb2 (v := .int .u64 r3) (by (simp [go_sem]; done)) (by (simp [go_sem]; done))
      clear l0 l1 l2 l3 l4 l5 l6 l7 l8 l9 l10 l11 hW2 hC1 hC2 C
      go_wp2_with fail
      have hn := HP.out.2 (by simp)
      refine bodyPost_ret (v := .tuple #[.agg #[.int .u64 r0, .int .u64 r1, .int .u64 r2, .int .u64 r3], .int .i64 0]) (by simp [results, Try.results83, go_sem, m0, m1, m2, m3]) rfl ⟨?_, ?_⟩
      · have hf : R256 (x + y) := by rw [← hn]; exact HRR.out
        unfold fitZ errZ
        rw [if_pos hf, if_pos hf, ← hn, HR.out]
      · exact ((((below_trans (by go_grown) hb2).setCell (by simp; omega) _).setCell (by simp; omega) _).setCell (by simp; omega) _).setCell (by simp; omega) _
    · obtain rfl : vr = !vb := by cases vb <;> cases vr <;> simp at har ⊢
      clear har
      refine region_below (by kernel_rfl) (by kernel_rfl) (fun C hC1 hC2 => ?_)
      have l0 : ∀ w', C w' → w'.cell? ⟨w.heap.size, 0, none⟩ = some (.int .u64 a0) := class_cell hC1 (by (simp [go_sem]; done))
      have l1 : ∀ w', C w' → w'.cell? ⟨w.heap.size, 1, none⟩ = some (.int .u64 a1) := class_cell hC1 (by (simp [go_sem]; done))
      have l2 : ∀ w', C w' → w'.cell? ⟨w.heap.size, 2, none⟩ = some (.int .u64 a2) := class_cell hC1 (by (simp [go_sem]; done))
      have l3 : ∀ w', C w' → w'.cell? ⟨w.heap.size, 3, none⟩ = some (.int .u64 a3) := class_cell hC1 (by (simp [go_sem]; done))
      have l4 : ∀ w', C w' → w'.cell? ⟨w.heap.size + 1, 0, none⟩ = some (.int .u64 b0) := class_cell hC1 (by (simp [go_sem]; done))
      have l5 : ∀ w', C w' → w'.cell? ⟨w.heap.size + 1, 1, none⟩ = some (.int .u64 b1) := class_cell hC1 (by (simp [go_sem]; done))
      have l6 : ∀ w', C w' → w'.cell? ⟨w.heap.size + 1, 2, none⟩ = some (.int .u64 b2) := class_cell hC1 (by (simp [go_sem]; done))
      have l7 : ∀ w', C w' → w'.cell? ⟨w.heap.size + 1, 3, none⟩ = some (.int .u64 b3) := class_cell hC1 (by (simp [go_sem]; done))
      have l8 : ∀ w', C w' → w'.cell? ⟨w.heap.size + 1 + 1 + 1, 0, none⟩ = some (.int .u64 r0) := class_cell hC1 (by (simp [go_sem]; done))
      have l9 : ∀ w', C w' → w'.cell? ⟨w.heap.size + 1 + 1 + 1, 1, none⟩ = some (.int .u64 r1) := class_cell hC1 (by (simp [go_sem]; done))
      have l10 : ∀ w', C w' → w'.cell? ⟨w.heap.size + 1 + 1 + 1, 2, none⟩ = some (.int .u64 r2) := class_cell hC1 (by (simp [go_sem]; done))
      have l11 : ∀ w', C w' → w'.cell? ⟨w.heap.size + 1 + 1 + 1, 3, none⟩ = some (.int .u64 r3) := class_cell hC1 (by (simp [go_sem]; done))
      repeat (first
        | (go_big_quiet_want; go_big_quiet_op; go_big_quiet_on)
        | (go_big_quiet_want; apply quiet_intro; (intro w' hw; simp [go_sem, l0, l1, l2, l3, l4, l5, l6, l7, l8, l9, l10, l11, hw]; with_reducible exact rfl); (go_big_quiet_on; simp only [Act.put, List.setIfInBounds_toArray, List.set_cons_succ, List.set_cons_zero]))
        | (go_big_quiet_want; apply quiet_intro; (intro w' hw; simp [go_sem]; go_at_call 87; refine (below_v _ _ _ _ _ (by assumption) (by assumption) _).mono ?_; rintro e w'' ⟨he, hb⟩; exact ⟨he, hC2 _ _ hw hb⟩); (go_big_quiet_on; simp only [Act.put, List.setIfInBounds_toArray, List.set_cons_succ, List.set_cons_zero])))
      refine wpQuiet_nil ?_
      intro W2 hW2
      have hb2 := hC1 W2 hW2
      have m0 : W2.cell? ⟨w.heap.size + 1 + 1, 0, none⟩ = some (.int .u64 0) := below_cell hb2 (by (simp [go_sem]; done))
      have f0 : W2.frozen? ⟨w.heap.size + 1 + 1, 0, none⟩ = false := below_frozen hb2 (v := .int .u64 0) (by (simp [go_sem]; done)) (by (simp [go_sem]; done))
      have m1 : W2.cell? ⟨w.heap.size + 1 + 1, 1, none⟩ = some (.int .u64 0) := below_cell hb2 (by (simp [go_sem]; done))
      have f1 : W2.frozen? ⟨w.heap.size + 1 + 1, 1, none⟩ = false := below_frozen hb2 (v := .int .u64 0) (by (simp [go_sem]; done)) (by (simp [go_sem]; done))
      have m2 : W2.cell? ⟨w.heap.size + 1 + 1, 2, none⟩ = some (.int .u64 0) := below_cell hb2 (by (simp [go_sem]; done))
      have f2 : W2.frozen? ⟨w.heap.size + 1 + 1, 2, none⟩ = false := below_frozen hb2 (v := .int .u64 0) (by (simp [go_sem]; done)) (by (simp [go_sem]; done))
      have m3 : W2.cell? ⟨w.heap.size + 1 + 1, 3, none⟩ = some (.int .u64 0) := below_cell hb2 (by (simp [go_sem]; done))
      have f3 : W2.frozen? ⟨w.heap.size + 1 + 1, 3, none⟩ = false := below_frozen hb2 (v := .int .u64 0) (by (simp [go_sem]; done)) (by (simp [go_sem]; done))
      clear l0 l1 l2 l3 l4 l5 l6 l7 l8 l9 l10 l11 hW2 hC1 hC2 C
      go_wp2_with fail
      have hn := HP.out.1 (by simp) (by simp)
      refine bodyPost_ret (v := .tuple #[.agg #[.int .u64 0, .int .u64 0, .int .u64 0, .int .u64 0], .int .i64 3]) (by simp [results, Try.results83, go_sem, m0, m1, m2, m3]) rfl ⟨?_, ?_⟩
      · unfold fitZ errZ
        rw [if_neg hn, if_neg hn, iV_zero]
      · exact ((((below_trans (by go_grown) hb2).setCell (by simp; omega) _).setCell (by simp; omega) _).setCell (by simp; omega) _).setCell (by simp; omega) _
  · obtain rfl : va = !vb := by cases va <;> cases vb <;> simp at hab ⊢
    clear hab
    refine region_below (by kernel_rfl) (by kernel_rfl) (fun C hC1 hC2 => ?_)
    have l0 : ∀ w', C w' → w'.cell? ⟨w.heap.size, 0, none⟩ = some (.int .u64 a0) := class_cell hC1 (by (simp [go_sem]; done))
    have l1 : ∀ w', C w' → w'.cell? ⟨w.heap.size, 1, none⟩ = some (.int .u64 a1) := class_cell hC1 (by (simp [go_sem]; done))
    have l2 : ∀ w', C w' → w'.cell? ⟨w.heap.size, 2, none⟩ = some (.int .u64 a2) := class_cell hC1 (by (simp [go_sem]; done))
    have l3 : ∀ w', C w' → w'.cell? ⟨w.heap.size, 3, none⟩ = some (.int .u64 a3) := class_cell hC1 (by (simp [go_sem]; done))
    have l4 : ∀ w', C w' → w'.cell? ⟨w.heap.size + 1, 0, none⟩ = some (.int .u64 b0) := class_cell hC1 (by (simp [go_sem]; done))
    have l5 : ∀ w', C w' → w'.cell? ⟨w.heap.size + 1, 1, none⟩ = some (.int .u64 b1) := class_cell hC1 (by (simp [go_sem]; done))
    have l6 : ∀ w', C w' → w'.cell? ⟨w.heap.size + 1, 2, none⟩ = some (.int .u64 b2) := class_cell hC1 (by (simp [go_sem]; done))
    have l7 : ∀ w', C w' → w'.cell? ⟨w.heap.size + 1, 3, none⟩ = some (.int .u64 b3) := class_cell hC1 (by (simp [go_sem]; done))
    repeat (first
      | go_big_quiet_skip
      | (go_big_quiet_want; go_big_quiet_op; go_big_quiet_on)
      | (go_big_quiet_want; apply quiet_intro; (intro w' hw; simp [go_sem, l0, l1, l2, l3, l4, l5, l6, l7, hw]; with_reducible exact rfl); (go_big_quiet_on; simp only [Act.put, List.setIfInBounds_toArray, List.set_cons_succ, List.set_cons_zero]))
      | (go_big_quiet_want; apply quiet_intro; (intro w' hw; simp [go_sem]; go_at_call 87; refine (below_v _ _ _ _ _ (by assumption) (by assumption) _).mono ?_; rintro e w'' ⟨he, hb⟩; exact ⟨he, hC2 _ _ hw hb⟩); (go_big_quiet_on; simp only [Act.put, List.setIfInBounds_toArray, List.set_cons_succ, List.set_cons_zero])))
    refine wpQuiet_nil ?_
    intro W2 hW2
    have hb2 := hC1 W2 hW2
    have m0 : W2.cell? ⟨w.heap.size + 1 + 1, 0, none⟩ = some (.int .u64 0) := below_cell hb2 (by (simp [go_sem]; done))
    have f0 : W2.frozen? ⟨w.heap.size + 1 + 1, 0, none⟩ = false := below_frozen hb2 (v := .int .u64 0) (by (simp [go_sem]; done)) (by (simp [go_sem]; done))
    have m1 : W2.cell? ⟨w.heap.size + 1 + 1, 1, none⟩ = some (.int .u64 0) := below_cell hb2 (by (simp [go_sem]; done))
    have f1 : W2.frozen? ⟨w.heap.size + 1 + 1, 1, none⟩ = false := below_frozen hb2 (v := .int .u64 0) (by (simp [go_sem]; done)) (by (simp [go_sem]; done))
    have m2 : W2.cell? ⟨w.heap.size + 1 + 1, 2, none⟩ = some (.int .u64 0) := below_cell hb2 (by (simp [go_sem]; done))
    have f2 : W2.frozen? ⟨w.heap.size + 1 + 1, 2, none⟩ = false := below_frozen hb2 (v := .int .u64 0) (by (simp [go_sem]; done)) (by (simp [go_sem]; done))
    have m3 : W2.cell? ⟨w.heap.size + 1 + 1, 3, none⟩ = some (.int .u64 0) := below_cell hb2 (by (simp [go_sem]; done))
    have f3 : W2.frozen? ⟨w.heap.size + 1 + 1, 3, none⟩ = false := below_frozen hb2 (v := .int .u64 0) (by (simp [go_sem]; done)) (by (simp [go_sem]; done))
    have m4 : W2.cell? ⟨w.heap.size + 1 + 1 + 1, 0, none⟩ = some (.int .u64 r0) := below_cell hb2 (by (simp [go_sem]; done))
    have f4 : W2.frozen? ⟨w.heap.size + 1 + 1 + 1, 0, none⟩ = false := below_frozen hb2 (v := .int .u64 r0) (by (simp [go_sem]; done)) (by (simp [go_sem]; done))
    have m5 : W2.cell? ⟨w.heap.size + 1 + 1 + 1, 1, none⟩ = some (.int .u64 r1) := below_cell hb2 (by (simp [go_sem]; done))
    have f5 : W2.frozen? ⟨w.heap.size + 1 + 1 + 1, 1, none⟩ = false := below_frozen hb2 (v := .int .u64 r1) (by (simp [go_sem]; done)) (by (simp [go_sem]; done))
    have m6 : W2.cell? ⟨w.heap.size + 1 + 1 + 1, 2, none⟩ = some (.int .u64 r2) := below_cell hb2 (by (simp [go_sem]; done))
    have f6 : W2.frozen? ⟨w.heap.size + 1 + 1 + 1, 2, none⟩ = false := below_frozen hb2 (v := .int .u64 r2) (by (simp [go_sem]; done)) (by (simp [go_sem]; done))
    have m7 : W2.cell? ⟨w.heap.size + 1 + 1 + 1, 3, none⟩ = some (.int .u64 r3) := below_cell hb2 (by (simp [go_sem]; done))
    have f7 : W2.frozen? ⟨w.heap.size + 1 + 1 + 1, 3, none⟩ = false := below_frozen hb2 (v := .int .u64 r3) (by (simp [go_sem]; done)) (by (simp [go_sem]; done))
    clear l0 l1 l2 l3 l4 l5 l6 l7 hW2 hC1 hC2 C
    go_wp2_with fail
    have hn := HP.out.2 (by simp; try exact hab)
    refine bodyPost_ret (v := .tuple #[.agg #[.int .u64 r0, .int .u64 r1, .int .u64 r2, .int .u64 r3], .int .i64 0]) (by simp [results, Try.results83, go_sem, m0, m1, m2, m3]) rfl ⟨?_, ?_⟩
    · have hf : R256 (x + y) := by rw [← hn]; exact HRR.out
      unfold fitZ errZ
      rw [if_pos hf, if_pos hf, ← hn, HR.out]
    · exact ((((below_trans (by go_grown) hb2).setCell (by simp; omega) _).setCell (by simp; omega) _).setCell (by simp; omega) _).setCell (by simp; omega) _
set_option maxRecDepth 100000 in
set_option maxHeartbeats 2000000 in
theorem sub_any (x y : Int) (hx : R256 x) (hy : R256 y) (w : World) :
    Calls Try.prog 66 #[iV x, iV y] w fun e w' => e = .returned (.tuple #[iV (fitZ (x - y)), .int .i64 (errZ (x - y))]) ∧ Below w.heap.size w w' := by
  obtain ⟨a0, a1, a2, a3, ha0, ha1, ha2, ha3, hxx, eX⟩ := iV_words x hx
  obtain ⟨b0, b1, b2, b3, hb0, hb1, hb2, hb3, hyy, eY⟩ := iV_words y hy
  rw [eX, eY]
  obtain ⟨r0, q0, A0, hr0, hq0, E0⟩ := sub64_ex a0 b0 0 ha0 hb0 (by omega) (by omega)
  obtain ⟨r1, q1, A1, hr1, hq1, E1⟩ := sub64_ex a1 b1 q0 ha1 hb1 hq0.1 hq0.2
  obtain ⟨r2, q2, A2, hr2, hq2, E2⟩ := sub64_ex a2 b2 q1 ha2 hb2 hq1.1 hq1.2
  obtain ⟨r3, q3, A3, hr3, hq3, E3⟩ := sub64_ex a3 b3 q2 ha3 hb3 hq2.1 hq2.2
  have hp := sub_plain ha0 ha1 ha2 ha3 hb0 hb1 hb2 hb3 hr0 hr1 hr2 hr3 hq0 hq1 hq2 hq3 E0.out E1.out E2.out E3.out
  rw [hxx, hyy] at hp
  have hres := iV_sv hr0 hr1 hr2 hr3
  have hrr := sv_range hr0 hr1 hr2 hr3
  have S : ∀ d, Wd d → ∃ v, Hid (ngB d = v) := fun d _ => ⟨_, Lib.hid rfl⟩
  obtain ⟨va, hva⟩ := S a3 ha3
  obtain ⟨vb, hvb⟩ := S b3 hb3
  obtain ⟨vr, hvr⟩ := S r3 hr3
  rw [hva.out, hvb.out, hvr.out] at hp
  have HP := Lib.hid hp
  have HR := Lib.hid hres
  have HRR := Lib.hid hrr
  clear hp S hres hrr eX eY hxx hyy E0 E1 E2 E3
  go_enter Try.func66, Try.ntmps66
  go_wp2
  refine wp_loop_rounds 5 ?_
  rw [rounds_succ]
  go_wp2_with fail
  go_region_held3 (fun w' => w'.cell? ⟨w.heap.size, 0, none⟩ = some (.int .u64 a0) ∧ w'.cell? ⟨w.heap.size + 1, 0, none⟩ = some (.int .u64 b0)) (simp [go_sem, World.cell?_alloc_past]) (fail)
  go_wp2_with fail
  rename_i hh
  clear hh
  rw [rounds_succ]
  go_wp2_with fail
  go_region_held3 (fun w' => w'.cell? ⟨w.heap.size, 1, none⟩ = some (.int .u64 a1) ∧ w'.cell? ⟨w.heap.size + 1, 1, none⟩ = some (.int .u64 b1)) (simp [go_sem, World.cell?_alloc_past]) (fail)
  go_wp2_with fail
  rename_i hh
  clear hh
  rw [rounds_succ]
  go_wp2_with fail
  go_region_held3 (fun w' => w'.cell? ⟨w.heap.size, 2, none⟩ = some (.int .u64 a2) ∧ w'.cell? ⟨w.heap.size + 1, 2, none⟩ = some (.int .u64 b2)) (simp [go_sem, World.cell?_alloc_past]) (fail)
  go_wp2_with fail
  rename_i hh
  clear hh
  rw [rounds_succ]
  go_wp2_with fail
  go_region_held3 (fun w' => w'.cell? ⟨w.heap.size, 3, none⟩ = some (.int .u64 a3) ∧ w'.cell? ⟨w.heap.size + 1, 3, none⟩ = some (.int .u64 b3)) (simp [go_sem, World.cell?_alloc_past]) (fail)
  go_wp2_with fail
  rename_i hh
  clear hh
  rw [rounds_succ]
  go_wp2_with fail
  clear A0 A1 A2 A3
  by_cases hab : va = !vb
  · subst hab
    by_cases har : vr = !vb
    · subst har
      refine region_below (by kernel_rfl) (by kernel_rfl) (fun C hC1 hC2 => ?_)
      have l0 : ∀ w', C w' → w'.cell? ⟨w.heap.size, 0, none⟩ = some (.int .u64 a0) := class_cell hC1 (by (simp [go_sem]; done))
      have l1 : ∀ w', C w' → w'.cell? ⟨w.heap.size, 1, none⟩ = some (.int .u64 a1) := class_cell hC1 (by (simp [go_sem]; done))
      have l2 : ∀ w', C w' → w'.cell? ⟨w.heap.size, 2, none⟩ = some (.int .u64 a2) := class_cell hC1 (by (simp [go_sem]; done))
      have l3 : ∀ w', C w' → w'.cell? ⟨w.heap.size, 3, none⟩ = some (.int .u64 a3) := class_cell hC1 (by (simp [go_sem]; done))
      have l4 : ∀ w', C w' → w'.cell? ⟨w.heap.size + 1, 0, none⟩ = some (.int .u64 b0) := class_cell hC1 (by (simp [go_sem]; done))
      have l5 : ∀ w', C w' → w'.cell? ⟨w.heap.size + 1, 1, none⟩ = some (.int .u64 b1) := class_cell hC1 (by (simp [go_sem]; done))
      have l6 : ∀ w', C w' → w'.cell? ⟨w.heap.size + 1, 2, none⟩ = some (.int .u64 b2) := class_cell hC1 (by (simp [go_sem]; done))
      have l7 : ∀ w', C w' → w'.cell? ⟨w.heap.size + 1, 3, none⟩ = some (.int .u64 b3) := class_cell hC1 (by (simp [go_sem]; done))
      have l8 : ∀ w', C w' → w'.cell? ⟨w.heap.size + 1 + 1 + 1, 0, none⟩ = some (.int .u64 r0) := class_cell hC1 (by (simp [go_sem]; done))
      have l9 : ∀ w', C w' → w'.cell? ⟨w.heap.size + 1 + 1 + 1, 1, none⟩ = some (.int .u64 r1) := class_cell hC1 (by (simp [go_sem]; done))
      have l10 : ∀ w', C w' → w'.cell? ⟨w.heap.size + 1 + 1 + 1, 2, none⟩ = some (.int .u64 r2) := class_cell hC1 (by (simp [go_sem]; done))
      have l11 : ∀ w', C w' → w'.cell? ⟨w.heap.size + 1 + 1 + 1, 3, none⟩ = some (.int .u64 r3) := class_cell hC1 (by (simp [go_sem]; done))
      repeat (first
        | (go_big_quiet_want; go_big_quiet_op; go_big_quiet_on)
        | (go_big_quiet_want; apply quiet_intro; (intro w' hw; simp [go_sem, l0, l1, l2, l3, l4, l5, l6, l7, l8, l9, l10, l11, hw]; with_reducible exact rfl); (go_big_quiet_on; simp only [Act.put, List.setIfInBounds_toArray, List.set_cons_succ, List.set_cons_zero]))
        | (go_big_quiet_want; apply quiet_intro; (intro w' hw; simp [go_sem]; go_at_call 87; refine (below_v _ _ _ _ _ (by assumption) (by assumption) _).mono ?_; rintro e w'' ⟨he, hb⟩; exact ⟨he, hC2 _ _ hw hb⟩); (go_big_quiet_on; simp only [Act.put, List.setIfInBounds_toArray, List.set_cons_succ, List.set_cons_zero])))
      refine wpQuiet_nil ?_
      intro W2 hW2
      have hb2 := hC1 W2 hW2
      have m0 : W2.cell? ⟨w.heap.size + 1 + 1, 0, none⟩ = some (.int .u64 0) := below_cell hb2 (by (simp [go_sem]; done))
      have f0 : W2.frozen? ⟨w.heap.size + 1 + 1, 0, none⟩ = false := below_frozen hb2 (v := .int .u64 0) (by (simp [go_sem]; done)) (by (simp [go_sem]; done))
      have m1 : W2.cell? ⟨w.heap.size + 1 + 1, 1, none⟩ = some (.int .u64 0) := below_cell hb2 (by (simp [go_sem]; done))
      have f1 : W2.frozen? ⟨w.heap.size + 1 + 1, 1, none⟩ = false := below_frozen hb2 (v := .int .u64 0) (by (simp [go_sem]; done)) (by (simp [go_sem]; done))
      have m2 : W2.cell? ⟨w.heap.size + 1 + 1, 2, none⟩ = some (.int .u64 0) := below_cell hb2 (by (simp [go_sem]; done))
      have f2 : W2.frozen? ⟨w.heap.size + 1 + 1, 2, none⟩ = false := below_frozen hb2 (v := .int .u64 0) (by (simp [go_sem]; done)) (by (simp [go_sem]; done))
      have m3 : W2.cell? ⟨w.heap.size + 1 + 1, 3, none⟩ = some (.int .u64 0) := below_cell hb2 (by (simp [go_sem]; done))
      have f3 : W2.frozen? ⟨w.heap.size + 1 + 1, 3, none⟩ = false := below_frozen hb2 (v := .int .u64 0) (by (simp [go_sem]; done)) (by (simp [go_sem]; done))
      have m4 : W2.cell? ⟨w.heap.size + 1 + 1 + 1, 0, none⟩ = some (.int .u64 r0) := below_cell hb2 (by (simp [go_sem]; done))
      have f4 : W2.frozen? ⟨w.heap.size + 1 + 1 + 1, 0, none⟩ = false := below_frozen hb2 (v := .int .u64 r0) (by (simp [go_sem]; done)) (by (simp [go_sem]; done))
      have m5 : W2.cell? ⟨w.heap.size + 1 + 1 + 1, 1, none⟩ = some (.int .u64 r1) := below_cell hb2 (by (simp [go_sem]; done))
      have f5 : W2.frozen? ⟨w.heap.size + 1 + 1 + 1, 1, none⟩ = false := below_frozen hb2 (v := .int .u64 r1) (by (simp [go_sem]; done)) (by (simp [go_sem]; done))
      have m6 : W2.cell? ⟨w.heap.size + 1 + 1 + 1, 2, none⟩ = some (.int .u64 r2) := below_cell hb2 (by (simp [go_sem]; done))
      have f6 : W2.frozen? ⟨w.heap.size + 1 + 1 + 1, 2, none⟩ = false := below_frozen hb2 (v := .int .u64 r2) (by (simp [go_sem]; done)) (by (simp [go_sem]; done))
      have m7 : W2.cell? ⟨w.heap.size + 1 + 1 + 1, 3, none⟩ = some (.int .u64 r3) := below_cell hb2 (by (simp [go_sem]; done))
      have f7 : W2.frozen? ⟨w.heap.size + 1 + 1 + 1, 3, none⟩ = false := below_frozen hb2 (v := .int .u64 r3) (by (simp [go_sem]; done)) (by (simp [go_sem]; done))
      clear l0 l1 l2 l3 l4 l5 l6 l7 l8 l9 l10 l11 hW2 hC1 hC2 C
      go_wp2_with fail
      have hn := HP.out.2 (by simp)
      refine bodyPost_ret (v := .tuple #[.agg #[.int .u64 r0, .int .u64 r1, .int .u64 r2, .int .u64 r3], .int .i64 0]) (by simp [results, Try.results66, go_sem, m0, m1, m2, m3]) rfl ⟨?_, ?_⟩
      · have hf : R256 (x - y) := by rw [← hn]; exact HRR.out
        unfold fitZ errZ
        rw [if_pos hf, if_pos hf, ← hn, HR.out]
      · exact ((((below_trans (by go_grown) hb2).setCell (by simp; omega) _).setCell (by simp; omega) _).setCell (by simp; omega) _).setCell (by simp; omega) _
    · obtain rfl : vr = vb := by cases vb <;> cases vr <;> simp at har ⊢
      clear har
      refine region_below (by kernel_rfl) (by kernel_rfl) (fun C hC1 hC2 => ?_)
      have l0 : ∀ w', C w' → w'.cell? ⟨w.heap.size, 0, none⟩ = some (.int .u64 a0) := class_cell hC1 (by (simp [go_sem]; done))
      have l1 : ∀ w', C w' → w'.cell? ⟨w.heap.size, 1, none⟩ = some (.int .u64 a1) := class_cell hC1 (by (simp [go_sem]; done))
      have l2 : ∀ w', C w' → w'.cell? ⟨w.heap.size, 2, none⟩ = some (.int .u64 a2) := class_cell hC1 (by (simp [go_sem]; done))
      have l3 : ∀ w', C w' → w'.cell? ⟨w.heap.size, 3, none⟩ = some (.int .u64 a3) := class_cell hC1 (by (simp [go_sem]; done))
      have l4 : ∀ w', C w' → w'.cell? ⟨w.heap.size + 1, 0, none⟩ = some (.int .u64 b0) := class_cell hC1 (by (simp [go_sem]; done))
      have l5 : ∀ w', C w' → w'.cell? ⟨w.heap.size + 1, 1, none⟩ = some (.int .u64 b1) := class_cell hC1 (by (simp [go_sem]; done))
      have l6 : ∀ w', C w' → w'.cell? ⟨w.heap.size + 1, 2, none⟩ = some (.int .u64 b2) := class_cell hC1 (by (simp [go_sem]; done))
      have l7 : ∀ w', C w' → w'.cell? ⟨w.heap.size + 1, 3, none⟩ = some (.int .u64 b3) := class_cell hC1 (by (simp [go_sem]; done))
      have l8 : ∀ w', C w' → w'.cell? ⟨w.heap.size + 1 + 1 + 1, 0, none⟩ = some (.int .u64 r0) := class_cell hC1 (by (simp [go_sem]; done))
      have l9 : ∀ w', C w' → w'.cell? ⟨w.heap.size + 1 + 1 + 1, 1, none⟩ = some (.int .u64 r1) := class_cell hC1 (by (simp [go_sem]; done))
      have l10 : ∀ w', C w' → w'.cell? ⟨w.heap.size + 1 + 1 + 1, 2, none⟩ = some (.int .u64 r2) := class_cell hC1 (by (simp [go_sem]; done))
      have l11 : ∀ w', C w' → w'.cell? ⟨w.heap.size + 1 + 1 + 1, 3, none⟩ = some (.int .u64 r3) := class_cell hC1 (by (simp [go_sem]; done))
      repeat (first
        | (go_big_quiet_want; go_big_quiet_op; go_big_quiet_on)
        | (go_big_quiet_want; apply quiet_intro; (intro w' hw; simp [go_sem, l0, l1, l2, l3, l4, l5, l6, l7, l8, l9, l10, l11, hw]; with_reducible exact rfl); (go_big_quiet_on; simp only [Act.put, List.setIfInBounds_toArray, List.set_cons_succ, List.set_cons_zero]))
        | (go_big_quiet_want; apply quiet_intro; (intro w' hw; simp [go_sem]; go_at_call 87; refine (below_v _ _ _ _ _ (by assumption) (by assumption) _).mono ?_; rintro e w'' ⟨he, hb⟩; exact ⟨he, hC2 _ _ hw hb⟩); (go_big_quiet_on; simp only [Act.put, List.setIfInBounds_toArray, List.set_cons_succ, List.set_cons_zero])))
      refine wpQuiet_nil ?_
      intro W2 hW2
      have hb2 := hC1 W2 hW2
      have m0 : W2.cell? ⟨w.heap.size + 1 + 1, 0, none⟩ = some (.int .u64 0) := below_cell hb2 (by (simp [go_sem]; done))
      have f0 : W2.frozen? ⟨w.heap.size + 1 + 1, 0, none⟩ = false := below_frozen hb2 (v := .int .u64 0) (by (simp [go_sem]; done)) (by (simp [go_sem]; done))
      have m1 : W2.cell? ⟨w.heap.size + 1 + 1, 1, none⟩ = some (.int .u64 0) := below_cell hb2 (by (simp [go_sem]; done))
      have f1 : W2.frozen? ⟨w.heap.size + 1 + 1, 1, none⟩ = false := below_frozen hb2 (v := .int .u64 0) (by (simp [go_sem]; done)) (by (simp [go_sem]; done))
      have m2 : W2.cell? ⟨w.heap.size + 1 + 1, 2, none⟩ = some (.int .u64 0) := below_cell hb2 (by (simp [go_sem]; done))
      have f2 : W2.frozen? ⟨w.heap.size + 1 + 1, 2, none⟩ = false := below_frozen hb2 (v := .int .u64 0) (by (simp [go_sem]; done)) (by (simp [go_sem]; done))
      have m3 : W2.cell? ⟨w.heap.size + 1 + 1, 3, none⟩ = some (.int .u64 0) := below_cell hb2 (by (simp [go_sem]; done))
      have f3 : W2.frozen? ⟨w.heap.size + 1 + 1, 3, none⟩ = false := below_frozen hb2 (v := .int .u64 0) (by (simp [go_sem]; done)) (by (simp [go_sem]; done))
      clear l0 l1 l2 l3 l4 l5 l6 l7 l8 l9 l10 l11 hW2 hC1 hC2 C
      go_wp2_with fail
      have hn := HP.out.1 (by simp) (by simp)
      refine bodyPost_ret (v := .tuple #[.agg #[.int .u64 0, .int .u64 0, .int .u64 0, .int .u64 0], .int .i64 3]) (by simp [results, Try.results66, go_sem, m0, m1, m2, m3]) rfl ⟨?_, ?_⟩
      · unfold fitZ errZ
        rw [if_neg hn, if_neg hn, iV_zero]
      · exact ((((below_trans (by go_grown) hb2).setCell (by simp; omega) _).setCell (by simp; omega) _).setCell (by simp; omega) _).setCell (by simp; omega) _
  · obtain rfl : va = vb := by cases va <;> cases vb <;> simp at hab ⊢
    clear hab
    refine region_below (by kernel_rfl) (by kernel_rfl) (fun C hC1 hC2 => ?_)
    have l0 : ∀ w', C w' → w'.cell? ⟨w.heap.size, 0, none⟩ = some (.int .u64 a0) := class_cell hC1 (by (simp [go_sem]; done))
    have l1 : ∀ w', C w' → w'.cell? ⟨w.heap.size, 1, none⟩ = some (.int .u64 a1) := class_cell hC1 (by (simp [go_sem]; done))
    have l2 : ∀ w', C w' → w'.cell? ⟨w.heap.size, 2, none⟩ = some (.int .u64 a2) := class_cell hC1 (by (simp [go_sem]; done))
    have l3 : ∀ w', C w' → w'.cell? ⟨w.heap.size, 3, none⟩ = some (.int .u64 a3) := class_cell hC1 (by (simp [go_sem]; done))
    have l4 : ∀ w', C w' → w'.cell? ⟨w.heap.size + 1, 0, none⟩ = some (.int .u64 b0) := class_cell hC1 (by (simp [go_sem]; done))
    have l5 : ∀ w', C w' → w'.cell? ⟨w.heap.size + 1, 1, none⟩ = some (.int .u64 b1) := class_cell hC1 (by (simp [go_sem]; done))
    have l6 : ∀ w', C w' → w'.cell? ⟨w.heap.size + 1, 2, none⟩ = some (.int .u64 b2) := class_cell hC1 (by (simp [go_sem]; done))
    have l7 : ∀ w', C w' → w'.cell? ⟨w.heap.size + 1, 3, none⟩ = some (.int .u64 b3) := class_cell hC1 (by (simp [go_sem]; done))
    repeat (first
      | go_big_quiet_skip
      | (go_big_quiet_want; go_big_quiet_op; go_big_quiet_on)
      | (go_big_quiet_want; apply quiet_intro; (intro w' hw; simp [go_sem, l0, l1, l2, l3, l4, l5, l6, l7, hw]; with_reducible exact rfl); (go_big_quiet_on; simp only [Act.put, List.setIfInBounds_toArray, List.set_cons_succ, List.set_cons_zero]))
      | (go_big_quiet_want; apply quiet_intro; (intro w' hw; simp [go_sem]; go_at_call 87; refine (below_v _ _ _ _ _ (by assumption) (by assumption) _).mono ?_; rintro e w'' ⟨he, hb⟩; exact ⟨he, hC2 _ _ hw hb⟩); (go_big_quiet_on; simp only [Act.put, List.setIfInBounds_toArray, List.set_cons_succ, List.set_cons_zero])))
    refine wpQuiet_nil ?_
    intro W2 hW2
    have hb2 := hC1 W2 hW2
    have m0 : W2.cell? ⟨w.heap.size + 1 + 1, 0, none⟩ = some (.int .u64 0) := below_cell hb2 (by (simp [go_sem]; done))
    have f0 : W2.frozen? ⟨w.heap.size + 1 + 1, 0, none⟩ = false := below_frozen hb2 (v := .int .u64 0) (by (simp [go_sem]; done)) (by (simp [go_sem]; done))
    have m1 : W2.cell? ⟨w.heap.size + 1 + 1, 1, none⟩ = some (.int .u64 0) := below_cell hb2 (by (simp [go_sem]; done))
    have f1 : W2.frozen? ⟨w.heap.size + 1 + 1, 1, none⟩ = false := below_frozen hb2 (v := .int .u64 0) (by (simp [go_sem]; done)) (by (simp [go_sem]; done))
    have m2 : W2.cell? ⟨w.heap.size + 1 + 1, 2, none⟩ = some (.int .u64 0) := below_cell hb2 (by (simp [go_sem]; done))
    have f2 : W2.frozen? ⟨w.heap.size + 1 + 1, 2, none⟩ = false := below_frozen hb2 (v := .int .u64 0) (by (simp [go_sem]; done)) (by (simp [go_sem]; done))
    have m3 : W2.cell? ⟨w.heap.size + 1 + 1, 3, none⟩ = some (.int .u64 0) := below_cell hb2 (by (simp [go_sem]; done))
    have f3 : W2.frozen? ⟨w.heap.size + 1 + 1, 3, none⟩ = false := below_frozen hb2 (v := .int .u64 0) (by (simp [go_sem]; done)) (by (simp [go_sem]; done))
    have m4 : W2.cell? ⟨w.heap.size + 1 + 1 + 1, 0, none⟩ = some (.int .u64 r0) := below_cell hb2 (by (simp [go_sem]; done))
    have f4 : W2.frozen? ⟨w.heap.size + 1 + 1 + 1, 0, none⟩ = false := below_frozen hb2 (v := .int .u64 r0) (by (simp [go_sem]; done)) (by (simp [go_sem]; done))
    have m5 : W2.cell? ⟨w.heap.size + 1 + 1 + 1, 1, none⟩ = some (.int .u64 r1) := below_cell hb2 (by (simp [go_sem]; done))
    have f5 : W2.frozen? ⟨w.heap.size + 1 + 1 + 1, 1, none⟩ = false := below_frozen hb2 (v := .int .u64 r1) (by (simp [go_sem]; done)) (by (simp [go_sem]; done))
    have m6 : W2.cell? ⟨w.heap.size + 1 + 1 + 1, 2, none⟩ = some (.int .u64 r2) := below_cell hb2 (by (simp [go_sem]; done))
    have f6 : W2.frozen? ⟨w.heap.size + 1 + 1 + 1, 2, none⟩ = false := below_frozen hb2 (v := .int .u64 r2) (by (simp [go_sem]; done)) (by (simp [go_sem]; done))
    have m7 : W2.cell? ⟨w.heap.size + 1 + 1 + 1, 3, none⟩ = some (.int .u64 r3) := below_cell hb2 (by (simp [go_sem]; done))
    have f7 : W2.frozen? ⟨w.heap.size + 1 + 1 + 1, 3, none⟩ = false := below_frozen hb2 (v := .int .u64 r3) (by (simp [go_sem]; done)) (by (simp [go_sem]; done))
    clear l0 l1 l2 l3 l4 l5 l6 l7 hW2 hC1 hC2 C
    go_wp2_with fail
    have hn := HP.out.2 (by simp; try exact hab)
    refine bodyPost_ret (v := .tuple #[.agg #[.int .u64 r0, .int .u64 r1, .int .u64 r2, .int .u64 r3], .int .i64 0]) (by simp [results, Try.results66, go_sem, m0, m1, m2, m3]) rfl ⟨?_, ?_⟩
    · have hf : R256 (x - y) := by rw [← hn]; exact HRR.out
      unfold fitZ errZ
      rw [if_pos hf, if_pos hf, ← hn, HR.out]
    · exact ((((below_trans (by go_grown) hb2).setCell (by simp; omega) _).setCell (by simp; omega) _).setCell (by simp; omega) _).setCell (by simp; omega) _
end Go.Proofs.Ytmmieilogpmocaa
