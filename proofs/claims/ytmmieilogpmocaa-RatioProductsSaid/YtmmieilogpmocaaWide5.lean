/-
  The walks of layer 3 (wide): Cmp, cmp.
-/
import Derived.Test.YtmmieilogpmocaaWideM
namespace Go.Proofs.Ytmmieilogpmocaa
set_option linter.unusedVariables false
set_option linter.unusedSimpArgs false
open Go.RowKit


set_option maxRecDepth 100000 in
set_option maxHeartbeats 4000000 in
theorem cmp_any (x y : Int) (hx : M512 x) (hy : M512 y) (w : World) :
    Calls Try.prog 95 #[mV x, mV y] w fun e w' => e = .returned (.int .i64 (cmpZ x y)) ∧ Below w.heap.size w w' := by
  obtain ⟨a0, a1, a2, a3, a4, a5, a6, a7, ha0, ha1, ha2, ha3, ha4, ha5, ha6, ha7, rfl, eX⟩ := mV_words x hx
  obtain ⟨b0, b1, b2, b3, b4, b5, b6, b7, hb0, hb1, hb2, hb3, hb4, hb5, hb6, hb7, rfl, eY⟩ := mV_words y hy
  rw [eX, eY]
  clear eX eY hx hy
  go_enter Try.func95, Try.ntmps95
  go_wp2_with fail
  refine wp_loop_rounds 9 ?_
  rw [rounds_succ]
  go_wp2_with fail
  rcases tri a7 b7 with ⟨t7, h7⟩ | ⟨t7, u7, h7⟩ | ⟨t7, u7, h7⟩
  · go_region_held3 (fun w' => w'.cell? ⟨w.heap.size, 7, none⟩ = some (.int .u64 a7) ∧ w'.cell? ⟨w.heap.size + 1, 7, none⟩ = some (.int .u64 b7)) (simp [go_sem, World.cell?_alloc_past]) (fail)
    rename_i hh
    clear hh
    go_wp2_with fail
    go_ret
    refine ⟨?_, by go_grown⟩
    refine congrArg (fun z => Ending.returned (.int .i64 z)) (cmpZ_lt ?_).symm
    have hh7 := h7.out; unfold mv; unfold Wd at *; omega
  · go_region_held3 (fun w' => w'.cell? ⟨w.heap.size, 7, none⟩ = some (.int .u64 a7) ∧ w'.cell? ⟨w.heap.size + 1, 7, none⟩ = some (.int .u64 b7)) (simp [go_sem, World.cell?_alloc_past]) (fail)
    rename_i hh
    clear hh
    go_wp2_with fail
    go_region_held3 (fun w' => w'.cell? ⟨w.heap.size, 7, none⟩ = some (.int .u64 a7) ∧ w'.cell? ⟨w.heap.size + 1, 7, none⟩ = some (.int .u64 b7)) (simp [go_sem, World.cell?_alloc_past]) (fail)
    rename_i hh
    clear hh
    go_wp2_with fail
    go_ret
    refine ⟨?_, by go_grown⟩
    refine congrArg (fun z => Ending.returned (.int .i64 z)) (cmpZ_gt ?_).symm
    have hh7 := h7.out; unfold mv; unfold Wd at *; omega
  · go_region_held3 (fun w' => w'.cell? ⟨w.heap.size, 7, none⟩ = some (.int .u64 a7) ∧ w'.cell? ⟨w.heap.size + 1, 7, none⟩ = some (.int .u64 b7)) (simp [go_sem, World.cell?_alloc_past]) (fail)
    rename_i hh
    clear hh
    go_wp2_with fail
    go_region_held3 (fun w' => w'.cell? ⟨w.heap.size, 7, none⟩ = some (.int .u64 a7) ∧ w'.cell? ⟨w.heap.size + 1, 7, none⟩ = some (.int .u64 b7)) (simp [go_sem, World.cell?_alloc_past]) (fail)
    rename_i hh
    clear hh
    go_wp2_with fail
    rw [rounds_succ]
    go_wp2_with fail
    rcases tri a6 b6 with ⟨t6, h6⟩ | ⟨t6, u6, h6⟩ | ⟨t6, u6, h6⟩
    · go_region_held3 (fun w' => w'.cell? ⟨w.heap.size, 6, none⟩ = some (.int .u64 a6) ∧ w'.cell? ⟨w.heap.size + 1, 6, none⟩ = some (.int .u64 b6)) (simp [go_sem, World.cell?_alloc_past]) (fail)
      rename_i hh
      clear hh
      go_wp2_with fail
      go_ret
      refine ⟨?_, by go_grown⟩
      refine congrArg (fun z => Ending.returned (.int .i64 z)) (cmpZ_lt ?_).symm
      have hh6 := h6.out; have hh7 := h7.out; unfold mv; unfold Wd at *; omega
    · go_region_held3 (fun w' => w'.cell? ⟨w.heap.size, 6, none⟩ = some (.int .u64 a6) ∧ w'.cell? ⟨w.heap.size + 1, 6, none⟩ = some (.int .u64 b6)) (simp [go_sem, World.cell?_alloc_past]) (fail)
      rename_i hh
      clear hh
      go_wp2_with fail
      go_region_held3 (fun w' => w'.cell? ⟨w.heap.size, 6, none⟩ = some (.int .u64 a6) ∧ w'.cell? ⟨w.heap.size + 1, 6, none⟩ = some (.int .u64 b6)) (simp [go_sem, World.cell?_alloc_past]) (fail)
      rename_i hh
      clear hh
      go_wp2_with fail
      go_ret
      refine ⟨?_, by go_grown⟩
      refine congrArg (fun z => Ending.returned (.int .i64 z)) (cmpZ_gt ?_).symm
      have hh6 := h6.out; have hh7 := h7.out; unfold mv; unfold Wd at *; omega
    · go_region_held3 (fun w' => w'.cell? ⟨w.heap.size, 6, none⟩ = some (.int .u64 a6) ∧ w'.cell? ⟨w.heap.size + 1, 6, none⟩ = some (.int .u64 b6)) (simp [go_sem, World.cell?_alloc_past]) (fail)
      rename_i hh
      clear hh
      go_wp2_with fail
      go_region_held3 (fun w' => w'.cell? ⟨w.heap.size, 6, none⟩ = some (.int .u64 a6) ∧ w'.cell? ⟨w.heap.size + 1, 6, none⟩ = some (.int .u64 b6)) (simp [go_sem, World.cell?_alloc_past]) (fail)
      rename_i hh
      clear hh
      go_wp2_with fail
      rw [rounds_succ]
      go_wp2_with fail
      rcases tri a5 b5 with ⟨t5, h5⟩ | ⟨t5, u5, h5⟩ | ⟨t5, u5, h5⟩
      · go_region_held3 (fun w' => w'.cell? ⟨w.heap.size, 5, none⟩ = some (.int .u64 a5) ∧ w'.cell? ⟨w.heap.size + 1, 5, none⟩ = some (.int .u64 b5)) (simp [go_sem, World.cell?_alloc_past]) (fail)
        rename_i hh
        clear hh
        go_wp2_with fail
        go_ret
        refine ⟨?_, by go_grown⟩
        refine congrArg (fun z => Ending.returned (.int .i64 z)) (cmpZ_lt ?_).symm
        have hh5 := h5.out; have hh6 := h6.out; have hh7 := h7.out; unfold mv; unfold Wd at *; omega
      · go_region_held3 (fun w' => w'.cell? ⟨w.heap.size, 5, none⟩ = some (.int .u64 a5) ∧ w'.cell? ⟨w.heap.size + 1, 5, none⟩ = some (.int .u64 b5)) (simp [go_sem, World.cell?_alloc_past]) (fail)
        rename_i hh
        clear hh
        go_wp2_with fail
        go_region_held3 (fun w' => w'.cell? ⟨w.heap.size, 5, none⟩ = some (.int .u64 a5) ∧ w'.cell? ⟨w.heap.size + 1, 5, none⟩ = some (.int .u64 b5)) (simp [go_sem, World.cell?_alloc_past]) (fail)
        rename_i hh
        clear hh
        go_wp2_with fail
        go_ret
        refine ⟨?_, by go_grown⟩
        refine congrArg (fun z => Ending.returned (.int .i64 z)) (cmpZ_gt ?_).symm
        have hh5 := h5.out; have hh6 := h6.out; have hh7 := h7.out; unfold mv; unfold Wd at *; omega
      · go_region_held3 (fun w' => w'.cell? ⟨w.heap.size, 5, none⟩ = some (.int .u64 a5) ∧ w'.cell? ⟨w.heap.size + 1, 5, none⟩ = some (.int .u64 b5)) (simp [go_sem, World.cell?_alloc_past]) (fail)
        rename_i hh
        clear hh
        go_wp2_with fail
        go_region_held3 (fun w' => w'.cell? ⟨w.heap.size, 5, none⟩ = some (.int .u64 a5) ∧ w'.cell? ⟨w.heap.size + 1, 5, none⟩ = some (.int .u64 b5)) (simp [go_sem, World.cell?_alloc_past]) (fail)
        rename_i hh
        clear hh
        go_wp2_with fail
        rw [rounds_succ]
        go_wp2_with fail
        rcases tri a4 b4 with ⟨t4, h4⟩ | ⟨t4, u4, h4⟩ | ⟨t4, u4, h4⟩
        · go_region_held3 (fun w' => w'.cell? ⟨w.heap.size, 4, none⟩ = some (.int .u64 a4) ∧ w'.cell? ⟨w.heap.size + 1, 4, none⟩ = some (.int .u64 b4)) (simp [go_sem, World.cell?_alloc_past]) (fail)
          rename_i hh
          clear hh
          go_wp2_with fail
          go_ret
          refine ⟨?_, by go_grown⟩
          refine congrArg (fun z => Ending.returned (.int .i64 z)) (cmpZ_lt ?_).symm
          have hh4 := h4.out; have hh5 := h5.out; have hh6 := h6.out; have hh7 := h7.out; unfold mv; unfold Wd at *; omega
        · go_region_held3 (fun w' => w'.cell? ⟨w.heap.size, 4, none⟩ = some (.int .u64 a4) ∧ w'.cell? ⟨w.heap.size + 1, 4, none⟩ = some (.int .u64 b4)) (simp [go_sem, World.cell?_alloc_past]) (fail)
          rename_i hh
          clear hh
          go_wp2_with fail
          go_region_held3 (fun w' => w'.cell? ⟨w.heap.size, 4, none⟩ = some (.int .u64 a4) ∧ w'.cell? ⟨w.heap.size + 1, 4, none⟩ = some (.int .u64 b4)) (simp [go_sem, World.cell?_alloc_past]) (fail)
          rename_i hh
          clear hh
          go_wp2_with fail
          go_ret
          refine ⟨?_, by go_grown⟩
          refine congrArg (fun z => Ending.returned (.int .i64 z)) (cmpZ_gt ?_).symm
          have hh4 := h4.out; have hh5 := h5.out; have hh6 := h6.out; have hh7 := h7.out; unfold mv; unfold Wd at *; omega
        · go_region_held3 (fun w' => w'.cell? ⟨w.heap.size, 4, none⟩ = some (.int .u64 a4) ∧ w'.cell? ⟨w.heap.size + 1, 4, none⟩ = some (.int .u64 b4)) (simp [go_sem, World.cell?_alloc_past]) (fail)
          rename_i hh
          clear hh
          go_wp2_with fail
          go_region_held3 (fun w' => w'.cell? ⟨w.heap.size, 4, none⟩ = some (.int .u64 a4) ∧ w'.cell? ⟨w.heap.size + 1, 4, none⟩ = some (.int .u64 b4)) (simp [go_sem, World.cell?_alloc_past]) (fail)
          rename_i hh
          clear hh
          go_wp2_with fail
          rw [rounds_succ]
          go_wp2_with fail
          rcases tri a3 b3 with ⟨t3, h3⟩ | ⟨t3, u3, h3⟩ | ⟨t3, u3, h3⟩
          · go_region_held3 (fun w' => w'.cell? ⟨w.heap.size, 3, none⟩ = some (.int .u64 a3) ∧ w'.cell? ⟨w.heap.size + 1, 3, none⟩ = some (.int .u64 b3)) (simp [go_sem, World.cell?_alloc_past]) (fail)
            rename_i hh
            clear hh
            go_wp2_with fail
            go_ret
            refine ⟨?_, by go_grown⟩
            refine congrArg (fun z => Ending.returned (.int .i64 z)) (cmpZ_lt ?_).symm
            have hh3 := h3.out; have hh4 := h4.out; have hh5 := h5.out; have hh6 := h6.out; have hh7 := h7.out; unfold mv; unfold Wd at *; omega
          · go_region_held3 (fun w' => w'.cell? ⟨w.heap.size, 3, none⟩ = some (.int .u64 a3) ∧ w'.cell? ⟨w.heap.size + 1, 3, none⟩ = some (.int .u64 b3)) (simp [go_sem, World.cell?_alloc_past]) (fail)
            rename_i hh
            clear hh
            go_wp2_with fail
            go_region_held3 (fun w' => w'.cell? ⟨w.heap.size, 3, none⟩ = some (.int .u64 a3) ∧ w'.cell? ⟨w.heap.size + 1, 3, none⟩ = some (.int .u64 b3)) (simp [go_sem, World.cell?_alloc_past]) (fail)
            rename_i hh
            clear hh
            go_wp2_with fail
            go_ret
            refine ⟨?_, by go_grown⟩
            refine congrArg (fun z => Ending.returned (.int .i64 z)) (cmpZ_gt ?_).symm
            have hh3 := h3.out; have hh4 := h4.out; have hh5 := h5.out; have hh6 := h6.out; have hh7 := h7.out; unfold mv; unfold Wd at *; omega
          · go_region_held3 (fun w' => w'.cell? ⟨w.heap.size, 3, none⟩ = some (.int .u64 a3) ∧ w'.cell? ⟨w.heap.size + 1, 3, none⟩ = some (.int .u64 b3)) (simp [go_sem, World.cell?_alloc_past]) (fail)
            rename_i hh
            clear hh
            go_wp2_with fail
            go_region_held3 (fun w' => w'.cell? ⟨w.heap.size, 3, none⟩ = some (.int .u64 a3) ∧ w'.cell? ⟨w.heap.size + 1, 3, none⟩ = some (.int .u64 b3)) (simp [go_sem, World.cell?_alloc_past]) (fail)
            rename_i hh
            clear hh
            go_wp2_with fail
            rw [rounds_succ]
            go_wp2_with fail
            rcases tri a2 b2 with ⟨t2, h2⟩ | ⟨t2, u2, h2⟩ | ⟨t2, u2, h2⟩
            · go_region_held3 (fun w' => w'.cell? ⟨w.heap.size, 2, none⟩ = some (.int .u64 a2) ∧ w'.cell? ⟨w.heap.size + 1, 2, none⟩ = some (.int .u64 b2)) (simp [go_sem, World.cell?_alloc_past]) (fail)
              rename_i hh
              clear hh
              go_wp2_with fail
              go_ret
              refine ⟨?_, by go_grown⟩
              refine congrArg (fun z => Ending.returned (.int .i64 z)) (cmpZ_lt ?_).symm
              have hh2 := h2.out; have hh3 := h3.out; have hh4 := h4.out; have hh5 := h5.out; have hh6 := h6.out; have hh7 := h7.out; unfold mv; unfold Wd at *; omega
            · go_region_held3 (fun w' => w'.cell? ⟨w.heap.size, 2, none⟩ = some (.int .u64 a2) ∧ w'.cell? ⟨w.heap.size + 1, 2, none⟩ = some (.int .u64 b2)) (simp [go_sem, World.cell?_alloc_past]) (fail)
              rename_i hh
              clear hh
              go_wp2_with fail
              go_region_held3 (fun w' => w'.cell? ⟨w.heap.size, 2, none⟩ = some (.int .u64 a2) ∧ w'.cell? ⟨w.heap.size + 1, 2, none⟩ = some (.int .u64 b2)) (simp [go_sem, World.cell?_alloc_past]) (fail)
              rename_i hh
              clear hh
              go_wp2_with fail
              go_ret
              refine ⟨?_, by go_grown⟩
              refine congrArg (fun z => Ending.returned (.int .i64 z)) (cmpZ_gt ?_).symm
              have hh2 := h2.out; have hh3 := h3.out; have hh4 := h4.out; have hh5 := h5.out; have hh6 := h6.out; have hh7 := h7.out; unfold mv; unfold Wd at *; omega
            · go_region_held3 (fun w' => w'.cell? ⟨w.heap.size, 2, none⟩ = some (.int .u64 a2) ∧ w'.cell? ⟨w.heap.size + 1, 2, none⟩ = some (.int .u64 b2)) (simp [go_sem, World.cell?_alloc_past]) (fail)
              rename_i hh
              clear hh
              go_wp2_with fail
              go_region_held3 (fun w' => w'.cell? ⟨w.heap.size, 2, none⟩ = some (.int .u64 a2) ∧ w'.cell? ⟨w.heap.size + 1, 2, none⟩ = some (.int .u64 b2)) (simp [go_sem, World.cell?_alloc_past]) (fail)
              rename_i hh
              clear hh
              go_wp2_with fail
              rw [rounds_succ]
              go_wp2_with fail
              rcases tri a1 b1 with ⟨t1, h1⟩ | ⟨t1, u1, h1⟩ | ⟨t1, u1, h1⟩
              · go_region_held3 (fun w' => w'.cell? ⟨w.heap.size, 1, none⟩ = some (.int .u64 a1) ∧ w'.cell? ⟨w.heap.size + 1, 1, none⟩ = some (.int .u64 b1)) (simp [go_sem, World.cell?_alloc_past]) (fail)
                rename_i hh
                clear hh
                go_wp2_with fail
                go_ret
                refine ⟨?_, by go_grown⟩
                refine congrArg (fun z => Ending.returned (.int .i64 z)) (cmpZ_lt ?_).symm
                have hh1 := h1.out; have hh2 := h2.out; have hh3 := h3.out; have hh4 := h4.out; have hh5 := h5.out; have hh6 := h6.out; have hh7 := h7.out; unfold mv; unfold Wd at *; omega
              · go_region_held3 (fun w' => w'.cell? ⟨w.heap.size, 1, none⟩ = some (.int .u64 a1) ∧ w'.cell? ⟨w.heap.size + 1, 1, none⟩ = some (.int .u64 b1)) (simp [go_sem, World.cell?_alloc_past]) (fail)
                rename_i hh
                clear hh
                go_wp2_with fail
                go_region_held3 (fun w' => w'.cell? ⟨w.heap.size, 1, none⟩ = some (.int .u64 a1) ∧ w'.cell? ⟨w.heap.size + 1, 1, none⟩ = some (.int .u64 b1)) (simp [go_sem, World.cell?_alloc_past]) (fail)
                rename_i hh
                clear hh
                go_wp2_with fail
                go_ret
                refine ⟨?_, by go_grown⟩
                refine congrArg (fun z => Ending.returned (.int .i64 z)) (cmpZ_gt ?_).symm
                have hh1 := h1.out; have hh2 := h2.out; have hh3 := h3.out; have hh4 := h4.out; have hh5 := h5.out; have hh6 := h6.out; have hh7 := h7.out; unfold mv; unfold Wd at *; omega
              · go_region_held3 (fun w' => w'.cell? ⟨w.heap.size, 1, none⟩ = some (.int .u64 a1) ∧ w'.cell? ⟨w.heap.size + 1, 1, none⟩ = some (.int .u64 b1)) (simp [go_sem, World.cell?_alloc_past]) (fail)
                rename_i hh
                clear hh
                go_wp2_with fail
                go_region_held3 (fun w' => w'.cell? ⟨w.heap.size, 1, none⟩ = some (.int .u64 a1) ∧ w'.cell? ⟨w.heap.size + 1, 1, none⟩ = some (.int .u64 b1)) (simp [go_sem, World.cell?_alloc_past]) (fail)
                rename_i hh
                clear hh
                go_wp2_with fail
                rw [rounds_succ]
                go_wp2_with fail
                rcases tri a0 b0 with ⟨t0, h0⟩ | ⟨t0, u0, h0⟩ | ⟨t0, u0, h0⟩
                · go_region_held3 (fun w' => w'.cell? ⟨w.heap.size, 0, none⟩ = some (.int .u64 a0) ∧ w'.cell? ⟨w.heap.size + 1, 0, none⟩ = some (.int .u64 b0)) (simp [go_sem, World.cell?_alloc_past]) (fail)
                  rename_i hh
                  clear hh
                  go_wp2_with fail
                  go_ret
                  refine ⟨?_, by go_grown⟩
                  refine congrArg (fun z => Ending.returned (.int .i64 z)) (cmpZ_lt ?_).symm
                  have hh0 := h0.out; have hh1 := h1.out; have hh2 := h2.out; have hh3 := h3.out; have hh4 := h4.out; have hh5 := h5.out; have hh6 := h6.out; have hh7 := h7.out; unfold mv; unfold Wd at *; omega
                · go_region_held3 (fun w' => w'.cell? ⟨w.heap.size, 0, none⟩ = some (.int .u64 a0) ∧ w'.cell? ⟨w.heap.size + 1, 0, none⟩ = some (.int .u64 b0)) (simp [go_sem, World.cell?_alloc_past]) (fail)
                  rename_i hh
                  clear hh
                  go_wp2_with fail
                  go_region_held3 (fun w' => w'.cell? ⟨w.heap.size, 0, none⟩ = some (.int .u64 a0) ∧ w'.cell? ⟨w.heap.size + 1, 0, none⟩ = some (.int .u64 b0)) (simp [go_sem, World.cell?_alloc_past]) (fail)
                  rename_i hh
                  clear hh
                  go_wp2_with fail
                  go_ret
                  refine ⟨?_, by go_grown⟩
                  refine congrArg (fun z => Ending.returned (.int .i64 z)) (cmpZ_gt ?_).symm
                  have hh0 := h0.out; have hh1 := h1.out; have hh2 := h2.out; have hh3 := h3.out; have hh4 := h4.out; have hh5 := h5.out; have hh6 := h6.out; have hh7 := h7.out; unfold mv; unfold Wd at *; omega
                · go_region_held3 (fun w' => w'.cell? ⟨w.heap.size, 0, none⟩ = some (.int .u64 a0) ∧ w'.cell? ⟨w.heap.size + 1, 0, none⟩ = some (.int .u64 b0)) (simp [go_sem, World.cell?_alloc_past]) (fail)
                  rename_i hh
                  clear hh
                  go_wp2_with fail
                  go_region_held3 (fun w' => w'.cell? ⟨w.heap.size, 0, none⟩ = some (.int .u64 a0) ∧ w'.cell? ⟨w.heap.size + 1, 0, none⟩ = some (.int .u64 b0)) (simp [go_sem, World.cell?_alloc_past]) (fail)
                  rename_i hh
                  clear hh
                  go_wp2_with fail
                  rw [rounds_succ]
                  go_wp2_with fail
                  go_ret
                  refine ⟨?_, by go_grown⟩
                  refine congrArg (fun z => Ending.returned (.int .i64 z)) (cmpZ_eq ?_).symm
                  have hh0 := h0.out; have hh1 := h1.out; have hh2 := h2.out; have hh3 := h3.out; have hh4 := h4.out; have hh5 := h5.out; have hh6 := h6.out; have hh7 := h7.out; unfold mv; unfold Wd at *; omega
end Go.Proofs.Ytmmieilogpmocaa
