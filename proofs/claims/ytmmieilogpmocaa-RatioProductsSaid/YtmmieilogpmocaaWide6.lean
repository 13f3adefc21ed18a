/-
  The walks of layer 3 (wide): plain, twice, less.
-/
import Derived.Test.YtmmieilogpmocaaWideM
namespace Go.Proofs.Ytmmieilogpmocaa
set_option linter.unusedVariables false
set_option linter.unusedSimpArgs false
open Go.RowKit

theorem neg_words {x : Int} (hx : R256 x) (hn : x < 0) : ∃ a b c d, Wd a ∧ Wd b ∧ Wd c ∧ Wd d ∧ iV (negZ x) = .agg #[.int .u64 a, .int .u64 b, .int .u64 c, .int .u64 d] ∧ mv a b c d 0 0 0 0 = -x := by
  have hr : R256 (negZ x) := by unfold negZ R256 at *; split <;> omega
  obtain ⟨a, b, c, d, ha, hb, hc, hd, hs, e⟩ := iV_words (negZ x) hr
  refine ⟨a, b, c, d, ha, hb, hc, hd, e, ?_⟩
  unfold negZ sv at hs; unfold mv; unfold Wd R256 at *
  split at hs <;> split at hs <;> omega
theorem pos_words {a b c d : Int} (hn : ¬ sv a b c d < 0) (ha : Wd a) (hb : Wd b) (hc : Wd c) (hd : Wd d) : mv a b c d 0 0 0 0 = sv a b c d := by
  unfold sv mv at *; unfold Wd at *
  split <;> rename_i h <;> simp only [h, if_true, if_false] at hn <;> omega
theorem wd0 : Wd 0 := by unfold Wd; omega
/-- A number without its sign. -/
def absZ (x : Int) : Int := if x < 0 then -x else x
set_option maxRecDepth 100000 in
set_option maxHeartbeats 4000000 in
theorem plain_any (x : Int) (hx : R256 x) (w : World) :
    Calls Try.prog 84 #[iV x] w fun e w' => e = .returned (mV (absZ x)) ∧ Below w.heap.size w w' := by
  obtain ⟨a0, a1, a2, a3, ha0, ha1, ha2, ha3, hxx, eX⟩ := iV_words x hx
  have hs := sv_neg ha0 ha1 ha2 ha3
  rw [hxx] at hs
  have ht := fun w => turn_w a0 a1 a2 a3 ha0 ha1 ha2 ha3 w
  rw [hxx] at ht
  rw [eX]
  by_cases hn : x < 0
  · have hd : decide (x < 0) = true := by simpa using hn
    rw [hd] at hs
    have hv := Lib.hid hs
    obtain ⟨r0, r1, r2, r3, hr0, hr1, hr2, hr3, eR, hrr⟩ := neg_words hx hn
    have hz : absZ x = -x := by unfold absZ; rw [if_pos hn]
    rw [eR] at ht
    rw [hz, ← hrr, mV_mv hr0 hr1 hr2 hr3 wd0 wd0 wd0 wd0]
    clear hz hs hd hn hrr eR hr0 hr1 hr2 hr3 hxx eX
    go_enter Try.func84, Try.ntmps84
    go_wp2_with fail
    refine (below_v a0 a1 a2 a3 true ha3 hv _).mono ?_
    rintro e w1 ⟨rfl, hb1⟩
    have mp0 : w1.cell? ⟨w.heap.size, 0, none⟩ = some (.int .u64 a0) := below_cell hb1 (by (simp [go_sem]; done))
    have fp0 : w1.frozen? ⟨w.heap.size, 0, none⟩ = false := below_frozen hb1 (v := .int .u64 a0) (by (simp [go_sem]; done)) (by (simp [go_sem]; done))
    have mp1 : w1.cell? ⟨w.heap.size, 1, none⟩ = some (.int .u64 a1) := below_cell hb1 (by (simp [go_sem]; done))
    have fp1 : w1.frozen? ⟨w.heap.size, 1, none⟩ = false := below_frozen hb1 (v := .int .u64 a1) (by (simp [go_sem]; done)) (by (simp [go_sem]; done))
    have mp2 : w1.cell? ⟨w.heap.size, 2, none⟩ = some (.int .u64 a2) := below_cell hb1 (by (simp [go_sem]; done))
    have fp2 : w1.frozen? ⟨w.heap.size, 2, none⟩ = false := below_frozen hb1 (v := .int .u64 a2) (by (simp [go_sem]; done)) (by (simp [go_sem]; done))
    have mp3 : w1.cell? ⟨w.heap.size, 3, none⟩ = some (.int .u64 a3) := below_cell hb1 (by (simp [go_sem]; done))
    have fp3 : w1.frozen? ⟨w.heap.size, 3, none⟩ = false := below_frozen hb1 (v := .int .u64 a3) (by (simp [go_sem]; done)) (by (simp [go_sem]; done))
    have mp4 : w1.cell? ⟨w.heap.size + 1, 0, none⟩ = some (.int .u64 0) := below_cell hb1 (by (simp [go_sem]; done))
    have fp4 : w1.frozen? ⟨w.heap.size + 1, 0, none⟩ = false := below_frozen hb1 (v := .int .u64 0) (by (simp [go_sem]; done)) (by (simp [go_sem]; done))
    have mp5 : w1.cell? ⟨w.heap.size + 1, 1, none⟩ = some (.int .u64 0) := below_cell hb1 (by (simp [go_sem]; done))
    have fp5 : w1.frozen? ⟨w.heap.size + 1, 1, none⟩ = false := below_frozen hb1 (v := .int .u64 0) (by (simp [go_sem]; done)) (by (simp [go_sem]; done))
    have mp6 : w1.cell? ⟨w.heap.size + 1, 2, none⟩ = some (.int .u64 0) := below_cell hb1 (by (simp [go_sem]; done))
    have fp6 : w1.frozen? ⟨w.heap.size + 1, 2, none⟩ = false := below_frozen hb1 (v := .int .u64 0) (by (simp [go_sem]; done)) (by (simp [go_sem]; done))
    have mp7 : w1.cell? ⟨w.heap.size + 1, 3, none⟩ = some (.int .u64 0) := below_cell hb1 (by (simp [go_sem]; done))
    have fp7 : w1.frozen? ⟨w.heap.size + 1, 3, none⟩ = false := below_frozen hb1 (v := .int .u64 0) (by (simp [go_sem]; done)) (by (simp [go_sem]; done))
    have mp8 : w1.cell? ⟨w.heap.size + 1, 4, none⟩ = some (.int .u64 0) := below_cell hb1 (by (simp [go_sem]; done))
    have fp8 : w1.frozen? ⟨w.heap.size + 1, 4, none⟩ = false := below_frozen hb1 (v := .int .u64 0) (by (simp [go_sem]; done)) (by (simp [go_sem]; done))
    have mp9 : w1.cell? ⟨w.heap.size + 1, 5, none⟩ = some (.int .u64 0) := below_cell hb1 (by (simp [go_sem]; done))
    have fp9 : w1.frozen? ⟨w.heap.size + 1, 5, none⟩ = false := below_frozen hb1 (v := .int .u64 0) (by (simp [go_sem]; done)) (by (simp [go_sem]; done))
    have mp10 : w1.cell? ⟨w.heap.size + 1, 6, none⟩ = some (.int .u64 0) := below_cell hb1 (by (simp [go_sem]; done))
    have fp10 : w1.frozen? ⟨w.heap.size + 1, 6, none⟩ = false := below_frozen hb1 (v := .int .u64 0) (by (simp [go_sem]; done)) (by (simp [go_sem]; done))
    have mp11 : w1.cell? ⟨w.heap.size + 1, 7, none⟩ = some (.int .u64 0) := below_cell hb1 (by (simp [go_sem]; done))
    have fp11 : w1.frozen? ⟨w.heap.size + 1, 7, none⟩ = false := below_frozen hb1 (v := .int .u64 0) (by (simp [go_sem]; done)) (by (simp [go_sem]; done))
    go_wp2_with fail
    refine (ht _).mono ?_
    rintro e w2 ⟨rfl, hb2⟩
    have mq0 : w2.cell? ⟨w.heap.size, 0, none⟩ = some (.int .u64 a0) := below_cell hb2 mp0
    have fq0 : w2.frozen? ⟨w.heap.size, 0, none⟩ = false := below_frozen hb2 mp0 fp0
    have mq1 : w2.cell? ⟨w.heap.size, 1, none⟩ = some (.int .u64 a1) := below_cell hb2 mp1
    have fq1 : w2.frozen? ⟨w.heap.size, 1, none⟩ = false := below_frozen hb2 mp1 fp1
    have mq2 : w2.cell? ⟨w.heap.size, 2, none⟩ = some (.int .u64 a2) := below_cell hb2 mp2
    have fq2 : w2.frozen? ⟨w.heap.size, 2, none⟩ = false := below_frozen hb2 mp2 fp2
    have mq3 : w2.cell? ⟨w.heap.size, 3, none⟩ = some (.int .u64 a3) := below_cell hb2 mp3
    have fq3 : w2.frozen? ⟨w.heap.size, 3, none⟩ = false := below_frozen hb2 mp3 fp3
    have mq4 : w2.cell? ⟨w.heap.size + 1, 0, none⟩ = some (.int .u64 0) := below_cell hb2 mp4
    have fq4 : w2.frozen? ⟨w.heap.size + 1, 0, none⟩ = false := below_frozen hb2 mp4 fp4
    have mq5 : w2.cell? ⟨w.heap.size + 1, 1, none⟩ = some (.int .u64 0) := below_cell hb2 mp5
    have fq5 : w2.frozen? ⟨w.heap.size + 1, 1, none⟩ = false := below_frozen hb2 mp5 fp5
    have mq6 : w2.cell? ⟨w.heap.size + 1, 2, none⟩ = some (.int .u64 0) := below_cell hb2 mp6
    have fq6 : w2.frozen? ⟨w.heap.size + 1, 2, none⟩ = false := below_frozen hb2 mp6 fp6
    have mq7 : w2.cell? ⟨w.heap.size + 1, 3, none⟩ = some (.int .u64 0) := below_cell hb2 mp7
    have fq7 : w2.frozen? ⟨w.heap.size + 1, 3, none⟩ = false := below_frozen hb2 mp7 fp7
    have mq8 : w2.cell? ⟨w.heap.size + 1, 4, none⟩ = some (.int .u64 0) := below_cell hb2 mp8
    have fq8 : w2.frozen? ⟨w.heap.size + 1, 4, none⟩ = false := below_frozen hb2 mp8 fp8
    have mq9 : w2.cell? ⟨w.heap.size + 1, 5, none⟩ = some (.int .u64 0) := below_cell hb2 mp9
    have fq9 : w2.frozen? ⟨w.heap.size + 1, 5, none⟩ = false := below_frozen hb2 mp9 fp9
    have mq10 : w2.cell? ⟨w.heap.size + 1, 6, none⟩ = some (.int .u64 0) := below_cell hb2 mp10
    have fq10 : w2.frozen? ⟨w.heap.size + 1, 6, none⟩ = false := below_frozen hb2 mp10 fp10
    have mq11 : w2.cell? ⟨w.heap.size + 1, 7, none⟩ = some (.int .u64 0) := below_cell hb2 mp11
    have fq11 : w2.frozen? ⟨w.heap.size + 1, 7, none⟩ = false := below_frozen hb2 mp11 fp11
    clear mp0 fp0 mp1 fp1 mp2 fp2 mp3 fp3 mp4 fp4 mp5 fp5 mp6 fp6 mp7 fp7 mp8 fp8 mp9 fp9 mp10 fp10 mp11 fp11
    go_wp2_with fail
    refine bodyPost_ret (v := .agg #[.int .u64 r0, .int .u64 r1, .int .u64 r2, .int .u64 r3, .int .u64 0, .int .u64 0, .int .u64 0, .int .u64 0]) (by simp [results, Try.results84, go_sem, mq0, mq1, mq2, mq3, mq4, mq5, mq6, mq7, mq8, mq9, mq10, mq11]) rfl ⟨rfl, ?_⟩
    exact (((((((((((((below_trans (by go_grown) (below_trans hb1 hb2))).setCell (by simp <;> omega) _).setCell (by simp <;> omega) _).setCell (by simp <;> omega) _).setCell (by simp <;> omega) _).setCell (by simp <;> omega) _).setCell (by simp <;> omega) _).setCell (by simp <;> omega) _).setCell (by simp <;> omega) _).setCell (by simp <;> omega) _).setCell (by simp <;> omega) _).setCell (by simp <;> omega) _).setCell (by simp <;> omega) _
  · have hd : decide (x < 0) = false := by simpa using hn
    rw [hd] at hs
    have hv := Lib.hid hs
    have hz : absZ x = x := by unfold absZ; rw [if_neg hn]
    have hp := pos_words (by rw [hxx]; exact hn) ha0 ha1 ha2 ha3
    rw [hz, ← hxx, ← hp, mV_mv ha0 ha1 ha2 ha3 wd0 wd0 wd0 wd0]
    clear hz hs hd hn hp hxx eX ht
    go_enter Try.func84, Try.ntmps84
    go_wp2_with fail
    refine (below_v a0 a1 a2 a3 false ha3 hv _).mono ?_
    rintro e w1 ⟨rfl, hb1⟩
    have mp0 : w1.cell? ⟨w.heap.size, 0, none⟩ = some (.int .u64 a0) := below_cell hb1 (by (simp [go_sem]; done))
    have fp0 : w1.frozen? ⟨w.heap.size, 0, none⟩ = false := below_frozen hb1 (v := .int .u64 a0) (by (simp [go_sem]; done)) (by (simp [go_sem]; done))
    have mp1 : w1.cell? ⟨w.heap.size, 1, none⟩ = some (.int .u64 a1) := below_cell hb1 (by (simp [go_sem]; done))
    have fp1 : w1.frozen? ⟨w.heap.size, 1, none⟩ = false := below_frozen hb1 (v := .int .u64 a1) (by (simp [go_sem]; done)) (by (simp [go_sem]; done))
    have mp2 : w1.cell? ⟨w.heap.size, 2, none⟩ = some (.int .u64 a2) := below_cell hb1 (by (simp [go_sem]; done))
    have fp2 : w1.frozen? ⟨w.heap.size, 2, none⟩ = false := below_frozen hb1 (v := .int .u64 a2) (by (simp [go_sem]; done)) (by (simp [go_sem]; done))
    have mp3 : w1.cell? ⟨w.heap.size, 3, none⟩ = some (.int .u64 a3) := below_cell hb1 (by (simp [go_sem]; done))
    have fp3 : w1.frozen? ⟨w.heap.size, 3, none⟩ = false := below_frozen hb1 (v := .int .u64 a3) (by (simp [go_sem]; done)) (by (simp [go_sem]; done))
    have mp4 : w1.cell? ⟨w.heap.size + 1, 0, none⟩ = some (.int .u64 0) := below_cell hb1 (by (simp [go_sem]; done))
    have fp4 : w1.frozen? ⟨w.heap.size + 1, 0, none⟩ = false := below_frozen hb1 (v := .int .u64 0) (by (simp [go_sem]; done)) (by (simp [go_sem]; done))
    have mp5 : w1.cell? ⟨w.heap.size + 1, 1, none⟩ = some (.int .u64 0) := below_cell hb1 (by (simp [go_sem]; done))
    have fp5 : w1.frozen? ⟨w.heap.size + 1, 1, none⟩ = false := below_frozen hb1 (v := .int .u64 0) (by (simp [go_sem]; done)) (by (simp [go_sem]; done))
    have mp6 : w1.cell? ⟨w.heap.size + 1, 2, none⟩ = some (.int .u64 0) := below_cell hb1 (by (simp [go_sem]; done))
    have fp6 : w1.frozen? ⟨w.heap.size + 1, 2, none⟩ = false := below_frozen hb1 (v := .int .u64 0) (by (simp [go_sem]; done)) (by (simp [go_sem]; done))
    have mp7 : w1.cell? ⟨w.heap.size + 1, 3, none⟩ = some (.int .u64 0) := below_cell hb1 (by (simp [go_sem]; done))
    have fp7 : w1.frozen? ⟨w.heap.size + 1, 3, none⟩ = false := below_frozen hb1 (v := .int .u64 0) (by (simp [go_sem]; done)) (by (simp [go_sem]; done))
    have mp8 : w1.cell? ⟨w.heap.size + 1, 4, none⟩ = some (.int .u64 0) := below_cell hb1 (by (simp [go_sem]; done))
    have fp8 : w1.frozen? ⟨w.heap.size + 1, 4, none⟩ = false := below_frozen hb1 (v := .int .u64 0) (by (simp [go_sem]; done)) (by (simp [go_sem]; done))
    have mp9 : w1.cell? ⟨w.heap.size + 1, 5, none⟩ = some (.int .u64 0) := below_cell hb1 (by (simp [go_sem]; done))
    have fp9 : w1.frozen? ⟨w.heap.size + 1, 5, none⟩ = false := below_frozen hb1 (v := .int .u64 0) (by (simp [go_sem]; done)) (by (simp [go_sem]; done))
    have mp10 : w1.cell? ⟨w.heap.size + 1, 6, none⟩ = some (.int .u64 0) := below_cell hb1 (by (simp [go_sem]; done))
    have fp10 : w1.frozen? ⟨w.heap.size + 1, 6, none⟩ = false := below_frozen hb1 (v := .int .u64 0) (by (simp [go_sem]; done)) (by (simp [go_sem]; done))
    have mp11 : w1.cell? ⟨w.heap.size + 1, 7, none⟩ = some (.int .u64 0) := below_cell hb1 (by (simp [go_sem]; done))
    have fp11 : w1.frozen? ⟨w.heap.size + 1, 7, none⟩ = false := below_frozen hb1 (v := .int .u64 0) (by (simp [go_sem]; done)) (by (simp [go_sem]; done))
    go_wp2_with fail
    refine bodyPost_ret (v := .agg #[.int .u64 a0, .int .u64 a1, .int .u64 a2, .int .u64 a3, .int .u64 0, .int .u64 0, .int .u64 0, .int .u64 0]) (by simp [results, Try.results84, go_sem, mp0, mp1, mp2, mp3, mp4, mp5, mp6, mp7, mp8, mp9, mp10, mp11]) rfl ⟨rfl, ?_⟩
    exact (((((((((below_trans (by go_grown) hb1)).setCell (by simp <;> omega) _).setCell (by simp <;> omega) _).setCell (by simp <;> omega) _).setCell (by simp <;> omega) _).setCell (by simp <;> omega) _).setCell (by simp <;> omega) _).setCell (by simp <;> omega) _).setCell (by simp <;> omega) _
end Go.Proofs.Ytmmieilogpmocaa
