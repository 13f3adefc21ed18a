/-
  The walks of layer 3 (wide): Cmp, cmp.
-/
import Derived.Test.YtdgpdafkngoegaaWideM
namespace Go.Proofs.Ytdgpdafkngoegaa
set_option linter.unusedVariables false
set_option linter.unusedSimpArgs false
open Go.RowKit


set_option maxRecDepth 100000 in
set_option maxHeartbeats 4000000 in
theorem cmp_any (x y : Int) (hx : M512 x) (hy : M512 y) (w : World) :
    Calls Try.prog 113 #[mV x, mV y] w fun e w' => e = .returned (.int .i64 (cmpZ x y)) ∧ Below w.heap.size w w' := by
  obtain ⟨a0, a1, a2, a3, a4, a5, a6, a7, ha0, ha1, ha2, ha3, ha4, ha5, ha6, ha7, rfl, eX⟩ := mV_words x hx
  obtain ⟨b0, b1, b2, b3, b4, b5, b6, b7, hb0, hb1, hb2, hb3, hb4, hb5, hb6, hb7, rfl, eY⟩ := mV_words y hy
  rw [eX, eY]
  clear eX eY hx hy
  go_enter Try.func113, Try.ntmps113
  go_wp2_with fail
  refine wp_loop_rounds 9 ?_
  rw [rounds_succ]
  go_wp2_with fail
  rcases tri a7 b7 with ⟨t7, h7⟩ | ⟨t7, u7, h7⟩ | ⟨t7, u7, h7⟩
  · go_region_held3 (fun w' => w'.cell? ⟨w.heap.size, 7, none⟩ = some (.int .u64 a7) ∧ w'.cell? ⟨w.heap.size + 1, 7, none⟩ = some (.int .u64 b7)) (simp [go_sem, World.cell?_alloc_past]) (fail)
    rename_i hh
    clear hh
    go_wp2_with fail
    go_ret
    refine ⟨?_, by go_grown⟩
    refine congrArg (fun z => Ending.returned (.int .i64 z)) (cmpZ_lt ?_).symm
    have hh7 := h7.out; unfold mv; unfold Wd at *; omega
  · go_region_held3 (fun w' => w'.cell? ⟨w.heap.size, 7, none⟩ = some (.int .u64 a7) ∧ w'.cell? ⟨w.heap.size + 1, 7, none⟩ = some (.int .u64 b7)) (simp [go_sem, World.cell?_alloc_past]) (fail)
    rename_i hh
    clear hh
    go_wp2_with fail
    go_region_held3 (fun w' => w'.cell? ⟨w.heap.size, 7, none⟩ = some (.int .u64 a7) ∧ w'.cell? ⟨w.heap.size + 1, 7, none⟩ = some (.int .u64 b7)) (simp [go_sem, World.cell?_alloc_past]) (fail)
    rename_i hh
    clear hh
    go_wp2_with fail
    go_ret
    refine ⟨?_, by go_grown⟩
    refine congrArg (fun z => Ending.returned (.int .i64 z)) (cmpZ_gt ?_).symm
    have hh7 := h7.out; unfold mv; unfold Wd at *; omega
  · go_region_held3 (fun w' => w'.cell? ⟨w.heap.size, 7, none⟩ = some (.int .u64 a7) ∧ w'.cell? ⟨w.heap.size + 1, 7, none⟩ = some (.int .u64 b7)) (simp [go_sem, World.cell?_alloc_past]) (fail)
    rename_i hh
    clear hh
    go_wp2_with fail
    go_region_held3 (fun w' => w'.cell? ⟨w.heap.size, 7, none⟩ = some (.int .u64 a7) ∧ w'.cell? ⟨w.heap.size + 1, 7, none⟩ = some (.int .u64 b7)) (simp [go_sem, World.cell?_alloc_past]) (fail)
    rename_i hh
    clear hh
    go_wp2_with fail
    rw [rounds_succ]
    go_wp2_with fail
    rcases tri a6 b6 with ⟨t6, h6⟩ | ⟨t6, u6, h6⟩ | ⟨t6, u6, h6⟩
    · go_region_held3 (fun w' => w'.cell? ⟨w.heap.size, 6, none⟩ = some (.int .u64 a6) ∧ w'.cell? ⟨w.heap.size + 1, 6, none⟩ = some (.int .u64 b6)) (simp [go_sem, World.cell?_alloc_past]) (fail)
      rename_i hh
      clear hh
      go_wp2_with fail
      go_ret
      refine ⟨?_, by go_grown⟩
      refine congrArg (fun z => Ending.returned (.int .i64 z)) (cmpZ_lt ?_).symm
      have hh6 := h6.out; have hh7 := h7.out; unfold mv; unfold Wd at *; omega
    · go_region_held3 (fun w' => w'.cell? ⟨w.heap.size, 6, none⟩ = some (.int .u64 a6) ∧ w'.cell? ⟨w.heap.size + 1, 6, none⟩ = some (.int .u64 b6)) (simp [go_sem, World.cell?_alloc_past]) (fail)
      rename_i hh
      clear hh
      go_wp2_with fail
      go_region_held3 (fun w' => w'.cell? ⟨w.heap.size, 6, none⟩ = some (.int .u64 a6) ∧ w'.cell? ⟨w.heap.size + 1, 6, none⟩ = some (.int .u64 b6)) (simp [go_sem, World.cell?_alloc_past]) (fail)
      rename_i hh
      clear hh
      go_wp2_with fail
      go_ret
      refine ⟨?_, by go_grown⟩
      refine congrArg (fun z => Ending.returned (.int .i64 z)) (cmpZ_gt ?_).symm
      have hh6 := h6.out; have hh7 := h7.out; unfold mv; unfold Wd at *; omega
    · go_region_held3 (fun w' => w'.cell? ⟨w.heap.size, 6, none⟩ = some (.int .u64 a6) ∧ w'.cell? ⟨w.heap.size + 1, 6, none⟩ = some (.int .u64 b6)) (simp [go_sem, World.cell?_alloc_past]) (fail)
      rename_i hh
      clear hh
      go_wp2_with fail
      go_region_held3 (fun w' => w'.cell? ⟨w.heap.size, 6, none⟩ = some (.int .u64 a6) ∧ w'.cell? ⟨w.heap.size + 1, 6, none⟩ = some (.int .u64 b6)) (simp [go_sem, World.cell?_alloc_past]) (fail)
      rename_i hh
      clear hh
      go_wp2_with fail
      rw [rounds_succ]
      go_wp2_with fail
      rcases tri a5 b5 with ⟨t5, h5⟩ | ⟨t5, u5, h5⟩ | ⟨t5, u5, h5⟩
      · go_region_held3 (fun w' => w'.cell? ⟨w.heap.size, 5, none⟩ = some (.int .u64 a5) ∧ w'.cell? ⟨w.heap.size + 1, 5, none⟩ = some (.int .u64 b5)) (simp [go_sem, World.cell?_alloc_past]) (fail)
        rename_i hh
        clear hh
        go_wp2_with fail
        go_ret
        refine ⟨?_, by go_grown⟩
        refine congrArg (fun z => Ending.returned (.int .i64 z)) (cmpZ_lt ?_).symm
        have hh5 := h5.out; have hh6 := h6.out; have hh7 := h7.out; unfold mv; unfold Wd at *; omega
      · go_region_held3 (fun w' => w'.cell? ⟨w.heap.size, 5, none⟩ = some (.int .u64 a5) ∧ w'.cell? ⟨w.heap.size + 1, 5, none⟩ = some (.int .u64 b5)) (simp [go_sem, World.cell?_alloc_past]) (fail)
        rename_i hh
        clear hh
        go_wp2_with fail
        go_region_held3 (fun w' => w'.cell? ⟨w.heap.size, 5, none⟩ = some (.int .u64 a5) ∧ w'.cell? ⟨w.heap.size + 1, 5, none⟩ = some (.int .u64 b5)) (simp [go_sem, World.cell?_alloc_past]) (fail)
        rename_i hh
        clear hh
        go_wp2_with fail
        go_ret
        refine ⟨?_, by go_grown⟩
        refine congrArg (fun z => Ending.returned (.int .i64 z)) (cmpZ_gt ?_).symm
        have hh5 := h5.out; have hh6 := h6.out; have hh7 := h7.out; unfold mv; unfold Wd at *; omega
      · go_region_held3 (fun w' => w'.cell? ⟨w.heap.size, 5, none⟩ = some (.int .u64 a5) ∧ w'.cell? ⟨w.heap.size + 1, 5, none⟩ = some (.int .u64 b5)) (simp [go_sem, World.cell?_alloc_past]) (fail)
        rename_i hh
        clear hh
        go_wp2_with fail
        go_region_held3 (fun w' => w'.cell? ⟨w.heap.size, 5, none⟩ = some (.int .u64 a5) ∧ w'.cell? ⟨w.heap.size + 1, 5, none⟩ = some (.int .u64 b5)) (simp [go_sem, World.cell?_alloc_past]) (fail)
        rename_i hh
        clear hh
        go_wp2_with fail
        rw [rounds_succ]
        go_wp2_with fail
        rcases tri a4 b4 with ⟨t4, h4⟩ | ⟨t4, u4, h4⟩ | ⟨t4, u4, h4⟩
        · go_region_held3 (fun w' => w'.cell? ⟨w.heap.size, 4, none⟩ = some (.int .u64 a4) ∧ w'.cell? ⟨w.heap.size + 1, 4, none⟩ = some (.int .u64 b4)) (simp [go_sem, World.cell?_alloc_past]) (fail)
          rename_i hh
          clear hh
          go_wp2_with fail
          go_ret
          refine ⟨?_, by go_grown⟩
          refine congrArg (fun z => Ending.returned (.int .i64 z)) (cmpZ_lt ?_).symm
          have hh4 := h4.out; have hh5 := h5.out; have hh6 := h6.out; have hh7 := h7.out; unfold mv; unfold Wd at *; omega
        · go_region_held3 (fun w' => w'.cell? ⟨w.heap.size, 4, none⟩ = some (.int .u64 a4) ∧ w'.cell? ⟨w.heap.size + 1, 4, none⟩ = some (.int .u64 b4)) (simp [go_sem, World.cell?_alloc_past]) (fail)
          rename_i hh
          clear hh
          go_wp2_with fail
          go_region_held3 (fun w' => w'.cell? ⟨w.heap.size, 4, none⟩ = some (.int .u64 a4) ∧ w'.cell? ⟨w.heap.size + 1, 4, none⟩ = some (.int .u64 b4)) (simp [go_sem, World.cell?_alloc_past]) (fail)
          rename_i hh
          clear hh
          go_wp2_with fail
          go_ret
          refine ⟨?_, by go_grown⟩
          refine congrArg (fun z => Ending.returned (.int .i64 z)) (cmpZ_gt ?_).symm
          have hh4 := h4.out; have hh5 := h5.out; have hh6 := h6.out; have hh7 := h7.out; unfold mv; unfold Wd at *; omega
        · go_region_held3 (fun w' => w'.cell? ⟨w.heap.size, 4, none⟩ = some (.int .u64 a4) ∧ w'.cell? ⟨w.heap.size + 1, 4, none⟩ = some (.int .u64 b4)) (simp [go_sem, World.cell?_alloc_past]) (fail)
          rename_i hh
          clear hh
          go_wp2_with fail
          go_region_held3 (fun w' => w'.cell? ⟨w.heap.size, 4, none⟩ = some (.int .u64 a4) ∧ w'.cell? ⟨w.heap.size + 1, 4, none⟩ = some (.int .u64 b4)) (simp [go_sem, World.cell?_alloc_past]) (fail)
          rename_i hh
          clear hh
          go_wp2_with fail
          rw [rounds_succ]
          go_wp2_with fail
          rcases tri a3 b3 with ⟨t3, h3⟩ | ⟨t3, u3, h3⟩ | ⟨t3, u3, h3⟩
          · go_region_held3 (fun w' => w'.cell? ⟨w.heap.size, 3, none⟩ = some (.int .u64 a3) ∧ w'.cell? ⟨w.heap.size + 1, 3, none⟩ = some (.int .u64 b3)) (simp [go_sem, World.cell?_alloc_past]) (fail)
            rename_i hh
            clear hh
            go_wp2_with fail
            go_ret
            refine ⟨?_, by go_grown⟩
            refine congrArg (fun z => Ending.returned (.int .i64 z)) (cmpZ_lt ?_).symm
            have hh3 := h3.out; have hh4 := h4.out; have hh5 := h5.out; have hh6 := h6.out; have hh7 := h7.out; unfold mv; unfold Wd at *; omega
          · go_region_held3 (fun w' => w'.cell? ⟨w.heap.size, 3, none⟩ = some (.int .u64 a3) ∧ w'.cell? ⟨w.heap.size + 1, 3, none⟩ = some (.int .u64 b3)) (simp [go_sem, World.cell?_alloc_past]) (fail)
            rename_i hh
            clear hh
            go_wp2_with fail
            go_region_held3 (fun w' => w'.cell? ⟨w.heap.size, 3, none⟩ = some (.int .u64 a3) ∧ w'.cell? ⟨w.heap.size + 1, 3, none⟩ = some (.int .u64 b3)) (simp [go_sem, World.cell?_alloc_past]) (fail)
            rename_i hh
            clear hh
            go_wp2_with fail
            go_ret
            refine ⟨?_, by go_grown⟩
            refine congrArg (fun z => Ending.returned (.int .i64 z)) (cmpZ_gt ?_).symm
            have hh3 := h3.out; have hh4 := h4.out; have hh5 := h5.out; have hh6 := h6.out; have hh7 := h7.out; unfold mv; unfold Wd at *; omega
          · go_region_held3 (fun w' => w'.cell? ⟨w.heap.size, 3, none⟩ = some (.int .u64 a3) ∧ w'.cell? ⟨w.heap.size + 1, 3, none⟩ = some (.int .u64 b3)) (simp [go_sem, World.cell?_alloc_past]) (fail)
            rename_i hh
            clear hh
            go_wp2_with fail
            go_region_held3 (fun w' => w'.cell? ⟨w.heap.size, 3, none⟩ = some (.int .u64 a3) ∧ w'.cell? ⟨w.heap.size + 1, 3, none⟩ = some (.int .u64 b3)) (simp [go_sem, World.cell?_alloc_past]) (fail)
            rename_i hh
            clear hh
            go_wp2_with fail
            rw [rounds_succ]
            go_wp2_with fail
            rcases tri a2 b2 with ⟨t2, h2⟩ | ⟨t2, u2, h2⟩ | ⟨t2, u2, h2⟩
            · go_region_held3 (fun w' => w'.cell? ⟨w.heap.size, 2, none⟩ = some (.int .u64 a2) ∧ w'.cell? ⟨w.heap.size + 1, 2, none⟩ = some (.int .u64 b2)) (simp [go_sem, World.cell?_alloc_past]) (fail)
              rename_i hh
              clear hh
              go_wp2_with fail
              go_ret
              refine ⟨?_, by go_grown⟩
              refine congrArg (fun z => Ending.returned (.int .i64 z)) (cmpZ_lt ?_).symm
              have hh2 := h2.out; have hh3 := h3.out; have hh4 := h4.out; have hh5 := h5.out; have hh6 := h6.out; have hh7 := h7.out; unfold mv; unfold Wd at *; omega
            · go_region_held3 (fun w' => w'.cell? ⟨w.heap.size, 2, none⟩ = some (.int .u64 a2) ∧ w'.cell? ⟨w.heap.size + 1, 2, none⟩ = some (.int .u64 b2)) (simp [go_sem, World.cell?_alloc_past]) (fail)
              rename_i hh
              clear hh
              go_wp2_with fail
              go_region_held3 (fun w' => w'.cell? ⟨w.heap.size, 2, none⟩ = some (.int .u64 a2) ∧ w'.cell? ⟨w.heap.size + 1, 2, none⟩ = some (.int .u64 b2)) (simp [go_sem, World.cell?_alloc_past]) (fail)
              rename_i hh
              clear hh
              go_wp2_with fail
              go_ret
              refine ⟨?_, by go_grown⟩
              refine congrArg (fun z => Ending.returned (.int .i64 z)) (cmpZ_gt ?_).symm
              have hh2 := h2.out; have hh3 := h3.out; have hh4 := h4.out; have hh5 := h5.out; have hh6 := h6.out; have hh7 := h7.out; unfold mv; unfold Wd at *; omega
            · go_region_held3 (fun w' => w'.cell? ⟨w.heap.size, 2, none⟩ = some (.int .u64 a2) ∧ w'.cell? ⟨w.heap.size + 1, 2, none⟩ = some (.int .u64 b2)) (simp [go_sem, World.cell?_alloc_past]) (fail)
              rename_i hh
              clear hh
              go_wp2_with fail
              go_region_held3 (fun w' => w'.cell? ⟨w.heap.size, 2, none⟩ = some (.int .u64 a2) ∧ w'.cell? ⟨w.heap.size + 1, 2, none⟩ = some (.int .u64 b2)) (simp [go_sem, World.cell?_alloc_past]) (fail)
              rename_i hh
              clear hh
              go_wp2_with fail
              rw [rounds_succ]
              go_wp2_with fail
              rcases tri a1 b1 with ⟨t1, h1⟩ | ⟨t1, u1, h1⟩ | ⟨t1, u1, h1⟩
              · go_region_held3 (fun w' => w'.cell? ⟨w.heap.size, 1, none⟩ = some (.int .u64 a1) ∧ w'.cell? ⟨w.heap.size + 1, 1, none⟩ = some (.int .u64 b1)) (simp [go_sem, World.cell?_alloc_past]) (fail)
                rename_i hh
                clear hh
                go_wp2_with fail
                go_ret
                refine ⟨?_, by go_grown⟩
                refine congrArg (fun z => Ending.returned (.int .i64 z)) (cmpZ_lt ?_).symm
                have hh1 := h1.out; have hh2 := h2.out; have hh3 := h3.out; have hh4 := h4.out; have hh5 := h5.out; have hh6 := h6.out; have hh7 := h7.out; unfold mv; unfold Wd at *; omega
              · go_region_held3 (fun w' => w'.cell? ⟨w.heap.size, 1, none⟩ = some (.int .u64 a1) ∧ w'.cell? ⟨w.heap.size + 1, 1, none⟩ = some (.int .u64 b1)) (simp [go_sem, World.cell?_alloc_past]) (fail)
                rename_i hh
                clear hh
                go_wp2_with fail
                go_region_held3 (fun w' => w'.cell? ⟨w.heap.size, 1, none⟩ = some (.int .u64 a1) ∧ w'.cell? ⟨w.heap.size + 1, 1, none⟩ = some (.int .u64 b1)) (simp [go_sem, World.cell?_alloc_past]) (fail)
                rename_i hh
                clear hh
                go_wp2_with fail
                go_ret
                refine ⟨?_, by go_grown⟩
                refine congrArg (fun z => Ending.returned (.int .i64 z)) (cmpZ_gt ?_).symm
                have hh1 := h1.out; have hh2 := h2.out; have hh3 := h3.out; have hh4 := h4.out; have hh5 := h5.out; have hh6 := h6.out; have hh7 := h7.out; unfold mv; unfold Wd at *; omega
              · go_region_held3 (fun w' => w'.cell? ⟨w.heap.size, 1, none⟩ = some (.int .u64 a1) ∧ w'.cell? ⟨w.heap.size + 1, 1, none⟩ = some (.int .u64 b1)) (simp [go_sem, World.cell?_alloc_past]) (fail)
                rename_i hh
                clear hh
                go_wp2_with fail
                go_region_held3 (fun w' => w'.cell? ⟨w.heap.size, 1, none⟩ = some (.int .u64 a1) ∧ w'.cell? ⟨w.heap.size + 1, 1, none⟩ = some (.int .u64 b1)) (simp [go_sem, World.cell?_alloc_past]) (fail)
                rename_i hh
                clear hh
                go_wp2_with fail
                rw [rounds_succ]
                go_wp2_with fail
                rcases tri a0 b0 with ⟨t0, h0⟩ | ⟨t0, u0, h0⟩ | ⟨t0, u0, h0⟩
                · go_region_held3 (fun w' => w'.cell? ⟨w.heap.size, 0, none⟩ = some (.int .u64 a0) ∧ w'.cell? ⟨w.heap.size + 1, 0, none⟩ = some (.int .u64 b0)) (simp [go_sem, World.cell?_alloc_past]) (fail)
                  rename_i hh
                  clear hh
                  go_wp2_with fail
                  go_ret
                  refine ⟨?_, by go_grown⟩
                  refine congrArg (fun z => Ending.returned (.int .i64 z)) (cmpZ_lt ?_).symm
                  have hh0 := h0.out; have hh1 := h1.out; have hh2 := h2.out; have hh3 := h3.out; have hh4 := h4.out; have hh5 := h5.out; have hh6 := h6.out; have hh7 := h7.out; unfold mv; unfold Wd at *; omega
                · go_region_held3 (fun w' => w'.cell? ⟨w.heap.size, 0, none⟩ = some (.int .u64 a0) ∧ w'.cell? ⟨w.heap.size + 1, 0, none⟩ = some (.int .u64 b0)) (simp [go_sem, World.cell?_alloc_past]) (fail)
                  rename_i hh
                  clear hh
                  go_wp2_with fail
                  go_region_held3 (fun w' => w'.cell? ⟨w.heap.size, 0, none⟩ = some (.int .u64 a0) ∧ w'.cell? ⟨w.heap.size + 1, 0, none⟩ = some (.int .u64 b0)) (simp [go_sem, World.cell?_alloc_past]) (fail)
                  rename_i hh
                  clear hh
                  go_wp2_with fail
                  go_ret
                  refine ⟨?_, by go_grown⟩
                  refine congrArg (fun z => Ending.returned (.int .i64 z)) (cmpZ_gt ?_).symm
                  have hh0 := h0.out; have hh1 := h1.out; have hh2 := h2.out; have hh3 := h3.out; have hh4 := h4.out; have hh5 := h5.out; have hh6 := h6.out; have hh7 := h7.out; unfold mv; unfold Wd at *; omega
                · go_region_held3 (fun w' => w'.cell? ⟨w.heap.size, 0, none⟩ = some (.int .u64 a0) ∧ w'.cell? ⟨w.heap.size + 1, 0, none⟩ = some (.int .u64 b0)) (simp [go_sem, World.cell?_alloc_past]) (fail)
                  rename_i hh
                  clear hh
                  go_wp2_with fail
                  go_region_held3 (fun w' => w'.cell? ⟨w.heap.size, 0, none⟩ = some (.int .u64 a0) ∧ w'.cell? ⟨w.heap.size + 1, 0, none⟩ = some (.int .u64 b0)) (simp [go_sem, World.cell?_alloc_past]) (fail)
                  rename_i hh
                  clear hh
                  go_wp2_with fail
                  rw [rounds_succ]
                  go_wp2_with fail
                  go_ret
                  refine ⟨?_, by go_grown⟩
                  refine congrArg (fun z => Ending.returned (.int .i64 z)) (cmpZ_eq ?_).symm
                  have hh0 := h0.out; have hh1 := h1.out; have hh2 := h2.out; have hh3 := h3.out; have hh4 := h4.out; have hh5 := h5.out; have hh6 := h6.out; have hh7 := h7.out; unfold mv; unfold Wd at *; omega
set_option maxRecDepth 100000 in
set_option maxHeartbeats 4000000 in
theorem Cmp_any (x y : Int) (hx : R256 x) (hy : R256 y) (w : World) :
    Calls Try.prog 55 #[iV x, iV y] w fun e w' => e = .returned (.int .i64 (cmpZ x y)) ∧ Below w.heap.size w w' := by
  obtain ⟨a0, a1, a2, a3, ha0, ha1, ha2, ha3, rfl, eX⟩ := iV_words x hx
  obtain ⟨b0, b1, b2, b3, hb0, hb1, hb2, hb3, rfl, eY⟩ := iV_words y hy
  rw [eX, eY]
  clear eX eY hx hy
  have S : ∀ d, Wd d → ∃ v, Hid (ngB d = v) := fun d _ => ⟨_, Lib.hid rfl⟩
  obtain ⟨va, hva⟩ := S a3 ha3
  obtain ⟨vb, hvb⟩ := S b3 hb3
  clear S
  go_enter Try.func55, Try.ntmps55
  go_wp2_with fail
  by_cases hab : vb = va
  · subst hab
    refine region_below (by kernel_rfl) (by kernel_rfl) (fun C hC1 hC2 => ?_)
    have l0 : ∀ w', C w' → w'.cell? ⟨w.heap.size, 0, none⟩ = some (.int .u64 a0) := class_cell hC1 (by (simp [go_sem]; done))
    have l1 : ∀ w', C w' → w'.cell? ⟨w.heap.size, 1, none⟩ = some (.int .u64 a1) := class_cell hC1 (by (simp [go_sem]; done))
    have l2 : ∀ w', C w' → w'.cell? ⟨w.heap.size, 2, none⟩ = some (.int .u64 a2) := class_cell hC1 (by (simp [go_sem]; done))
    have l3 : ∀ w', C w' → w'.cell? ⟨w.heap.size, 3, none⟩ = some (.int .u64 a3) := class_cell hC1 (by (simp [go_sem]; done))
    have l4 : ∀ w', C w' → w'.cell? ⟨w.heap.size + 1, 0, none⟩ = some (.int .u64 b0) := class_cell hC1 (by (simp [go_sem]; done))
    have l5 : ∀ w', C w' → w'.cell? ⟨w.heap.size + 1, 1, none⟩ = some (.int .u64 b1) := class_cell hC1 (by (simp [go_sem]; done))
    have l6 : ∀ w', C w' → w'.cell? ⟨w.heap.size + 1, 2, none⟩ = some (.int .u64 b2) := class_cell hC1 (by (simp [go_sem]; done))
    have l7 : ∀ w', C w' → w'.cell? ⟨w.heap.size + 1, 3, none⟩ = some (.int .u64 b3) := class_cell hC1 (by (simp [go_sem]; done))
    repeat (first
      | (go_big_quiet_want; apply quiet_intro; (intro w' hw; simp [go_sem, l0, l1, l2, l3, l4, l5, l6, l7, hw]; with_reducible exact rfl); (go_big_quiet_on; simp only [Act.put, List.setIfInBounds_toArray, List.set_cons_succ, List.set_cons_zero]))
      | (go_big_quiet_want; apply quiet_intro; (intro w' hw; simp [go_sem]; go_at_call 98; refine (below_v _ _ _ _ _ (by assumption) (by assumption) _).mono ?_; rintro e w'' ⟨he, hb⟩; exact ⟨he, hC2 _ _ hw hb⟩); (go_big_quiet_on; simp only [Act.put, List.setIfInBounds_toArray, List.set_cons_succ, List.set_cons_zero])))
    refine wpQuiet_nil ?_
    intro W2 hW2
    have hbw := hC1 W2 hW2
    have m0 : W2.cell? ⟨w.heap.size, 0, none⟩ = some (.int .u64 a0) := below_cell hbw (by (simp [go_sem]; done))
    have f0 : W2.frozen? ⟨w.heap.size, 0, none⟩ = false := below_frozen hbw (v := .int .u64 a0) (by (simp [go_sem]; done)) (by (simp [go_sem]; done))
    have m1 : W2.cell? ⟨w.heap.size, 1, none⟩ = some (.int .u64 a1) := below_cell hbw (by (simp [go_sem]; done))
    have f1 : W2.frozen? ⟨w.heap.size, 1, none⟩ = false := below_frozen hbw (v := .int .u64 a1) (by (simp [go_sem]; done)) (by (simp [go_sem]; done))
    have m2 : W2.cell? ⟨w.heap.size, 2, none⟩ = some (.int .u64 a2) := below_cell hbw (by (simp [go_sem]; done))
    have f2 : W2.frozen? ⟨w.heap.size, 2, none⟩ = false := below_frozen hbw (v := .int .u64 a2) (by (simp [go_sem]; done)) (by (simp [go_sem]; done))
    have m3 : W2.cell? ⟨w.heap.size, 3, none⟩ = some (.int .u64 a3) := below_cell hbw (by (simp [go_sem]; done))
    have f3 : W2.frozen? ⟨w.heap.size, 3, none⟩ = false := below_frozen hbw (v := .int .u64 a3) (by (simp [go_sem]; done)) (by (simp [go_sem]; done))
    have m4 : W2.cell? ⟨w.heap.size + 1, 0, none⟩ = some (.int .u64 b0) := below_cell hbw (by (simp [go_sem]; done))
    have f4 : W2.frozen? ⟨w.heap.size + 1, 0, none⟩ = false := below_frozen hbw (v := .int .u64 b0) (by (simp [go_sem]; done)) (by (simp [go_sem]; done))
    have m5 : W2.cell? ⟨w.heap.size + 1, 1, none⟩ = some (.int .u64 b1) := below_cell hbw (by (simp [go_sem]; done))
    have f5 : W2.frozen? ⟨w.heap.size + 1, 1, none⟩ = false := below_frozen hbw (v := .int .u64 b1) (by (simp [go_sem]; done)) (by (simp [go_sem]; done))
    have m6 : W2.cell? ⟨w.heap.size + 1, 2, none⟩ = some (.int .u64 b2) := below_cell hbw (by (simp [go_sem]; done))
    have f6 : W2.frozen? ⟨w.heap.size + 1, 2, none⟩ = false := below_frozen hbw (v := .int .u64 b2) (by (simp [go_sem]; done)) (by (simp [go_sem]; done))
    have m7 : W2.cell? ⟨w.heap.size + 1, 3, none⟩ = some (.int .u64 b3) := below_cell hbw (by (simp [go_sem]; done))
    have f7 : W2.frozen? ⟨w.heap.size + 1, 3, none⟩ = false := below_frozen hbw (v := .int .u64 b3) (by (simp [go_sem]; done)) (by (simp [go_sem]; done))
    clear l0 l1 l2 l3 l4 l5 l6 l7 hW2 hC1 hC2 C
    clear f0 f1 f2 f3 f4 f5 f6 f7
    go_wp2_with fail
    refine wp_loop_rounds 5 ?_
    rw [rounds_succ]
    go_wp2_with fail
    rcases tri a3 b3 with ⟨t3, h3⟩ | ⟨t3, u3, h3⟩ | ⟨t3, u3, h3⟩
    · go_region_held3 (fun w' => w'.cell? ⟨w.heap.size, 3, none⟩ = some (.int .u64 a3) ∧ w'.cell? ⟨w.heap.size + 1, 3, none⟩ = some (.int .u64 b3)) (simp [go_sem, m3, m7]) (fail)
      rename_i hh
      clear hh
      go_wp2_with fail
      go_ret
      refine ⟨?_, below_trans (by go_grown) (hbw.trans (by go_grown))⟩
      refine congrArg (fun z => Ending.returned (.int .i64 z)) (cmpZ_lt ?_).symm
      have hA := hva.out; have hB := hvb.out; have hh3 := h3.out; unfold ngB at hA hB; rw [← hB] at hA; simp only [decide_eq_decide] at hA; unfold sv; unfold Wd at *; (repeat' split) <;> omega
    · go_region_held3 (fun w' => w'.cell? ⟨w.heap.size, 3, none⟩ = some (.int .u64 a3) ∧ w'.cell? ⟨w.heap.size + 1, 3, none⟩ = some (.int .u64 b3)) (simp [go_sem, m3, m7]) (fail)
      rename_i hh
      clear hh
      go_wp2_with fail
      go_region_held3 (fun w' => w'.cell? ⟨w.heap.size, 3, none⟩ = some (.int .u64 a3) ∧ w'.cell? ⟨w.heap.size + 1, 3, none⟩ = some (.int .u64 b3)) (simp [go_sem, m3, m7]) (fail)
      rename_i hh
      clear hh
      go_wp2_with fail
      go_ret
      refine ⟨?_, below_trans (by go_grown) (hbw.trans (by go_grown))⟩
      refine congrArg (fun z => Ending.returned (.int .i64 z)) (cmpZ_gt ?_).symm
      have hA := hva.out; have hB := hvb.out; have hh3 := h3.out; unfold ngB at hA hB; rw [← hB] at hA; simp only [decide_eq_decide] at hA; unfold sv; unfold Wd at *; (repeat' split) <;> omega
    · go_region_held3 (fun w' => w'.cell? ⟨w.heap.size, 3, none⟩ = some (.int .u64 a3) ∧ w'.cell? ⟨w.heap.size + 1, 3, none⟩ = some (.int .u64 b3)) (simp [go_sem, m3, m7]) (fail)
      rename_i hh
      clear hh
      go_wp2_with fail
      go_region_held3 (fun w' => w'.cell? ⟨w.heap.size, 3, none⟩ = some (.int .u64 a3) ∧ w'.cell? ⟨w.heap.size + 1, 3, none⟩ = some (.int .u64 b3)) (simp [go_sem, m3, m7]) (fail)
      rename_i hh
      clear hh
      go_wp2_with fail
      rw [rounds_succ]
      go_wp2_with fail
      rcases tri a2 b2 with ⟨t2, h2⟩ | ⟨t2, u2, h2⟩ | ⟨t2, u2, h2⟩
      · go_region_held3 (fun w' => w'.cell? ⟨w.heap.size, 2, none⟩ = some (.int .u64 a2) ∧ w'.cell? ⟨w.heap.size + 1, 2, none⟩ = some (.int .u64 b2)) (simp [go_sem, m2, m6]) (fail)
        rename_i hh
        clear hh
        go_wp2_with fail
        go_ret
        refine ⟨?_, below_trans (by go_grown) (hbw.trans (by go_grown))⟩
        refine congrArg (fun z => Ending.returned (.int .i64 z)) (cmpZ_lt ?_).symm
        have hA := hva.out; have hB := hvb.out; have hh2 := h2.out; have hh3 := h3.out; unfold ngB at hA hB; rw [← hB] at hA; simp only [decide_eq_decide] at hA; unfold sv; unfold Wd at *; (repeat' split) <;> omega
      · go_region_held3 (fun w' => w'.cell? ⟨w.heap.size, 2, none⟩ = some (.int .u64 a2) ∧ w'.cell? ⟨w.heap.size + 1, 2, none⟩ = some (.int .u64 b2)) (simp [go_sem, m2, m6]) (fail)
        rename_i hh
        clear hh
        go_wp2_with fail
        go_region_held3 (fun w' => w'.cell? ⟨w.heap.size, 2, none⟩ = some (.int .u64 a2) ∧ w'.cell? ⟨w.heap.size + 1, 2, none⟩ = some (.int .u64 b2)) (simp [go_sem, m2, m6]) (fail)
        rename_i hh
        clear hh
        go_wp2_with fail
        go_ret
        refine ⟨?_, below_trans (by go_grown) (hbw.trans (by go_grown))⟩
        refine congrArg (fun z => Ending.returned (.int .i64 z)) (cmpZ_gt ?_).symm
        have hA := hva.out; have hB := hvb.out; have hh2 := h2.out; have hh3 := h3.out; unfold ngB at hA hB; rw [← hB] at hA; simp only [decide_eq_decide] at hA; unfold sv; unfold Wd at *; (repeat' split) <;> omega
      · go_region_held3 (fun w' => w'.cell? ⟨w.heap.size, 2, none⟩ = some (.int .u64 a2) ∧ w'.cell? ⟨w.heap.size + 1, 2, none⟩ = some (.int .u64 b2)) (simp [go_sem, m2, m6]) (fail)
        rename_i hh
        clear hh
        go_wp2_with fail
        go_region_held3 (fun w' => w'.cell? ⟨w.heap.size, 2, none⟩ = some (.int .u64 a2) ∧ w'.cell? ⟨w.heap.size + 1, 2, none⟩ = some (.int .u64 b2)) (simp [go_sem, m2, m6]) (fail)
        rename_i hh
        clear hh
        go_wp2_with fail
        rw [rounds_succ]
        go_wp2_with fail
        rcases tri a1 b1 with ⟨t1, h1⟩ | ⟨t1, u1, h1⟩ | ⟨t1, u1, h1⟩
        · go_region_held3 (fun w' => w'.cell? ⟨w.heap.size, 1, none⟩ = some (.int .u64 a1) ∧ w'.cell? ⟨w.heap.size + 1, 1, none⟩ = some (.int .u64 b1)) (simp [go_sem, m1, m5]) (fail)
          rename_i hh
          clear hh
          go_wp2_with fail
          go_ret
          refine ⟨?_, below_trans (by go_grown) (hbw.trans (by go_grown))⟩
          refine congrArg (fun z => Ending.returned (.int .i64 z)) (cmpZ_lt ?_).symm
          have hA := hva.out; have hB := hvb.out; have hh1 := h1.out; have hh2 := h2.out; have hh3 := h3.out; unfold ngB at hA hB; rw [← hB] at hA; simp only [decide_eq_decide] at hA; unfold sv; unfold Wd at *; (repeat' split) <;> omega
        · go_region_held3 (fun w' => w'.cell? ⟨w.heap.size, 1, none⟩ = some (.int .u64 a1) ∧ w'.cell? ⟨w.heap.size + 1, 1, none⟩ = some (.int .u64 b1)) (simp [go_sem, m1, m5]) (fail)
          rename_i hh
          clear hh
          go_wp2_with fail
          go_region_held3 (fun w' => w'.cell? ⟨w.heap.size, 1, none⟩ = some (.int .u64 a1) ∧ w'.cell? ⟨w.heap.size + 1, 1, none⟩ = some (.int .u64 b1)) (simp [go_sem, m1, m5]) (fail)
          rename_i hh
          clear hh
          go_wp2_with fail
          go_ret
          refine ⟨?_, below_trans (by go_grown) (hbw.trans (by go_grown))⟩
          refine congrArg (fun z => Ending.returned (.int .i64 z)) (cmpZ_gt ?_).symm
          have hA := hva.out; have hB := hvb.out; have hh1 := h1.out; have hh2 := h2.out; have hh3 := h3.out; unfold ngB at hA hB; rw [← hB] at hA; simp only [decide_eq_decide] at hA; unfold sv; unfold Wd at *; (repeat' split) <;> omega
        · go_region_held3 (fun w' => w'.cell? ⟨w.heap.size, 1, none⟩ = some (.int .u64 a1) ∧ w'.cell? ⟨w.heap.size + 1, 1, none⟩ = some (.int .u64 b1)) (simp [go_sem, m1, m5]) (fail)
          rename_i hh
          clear hh
          go_wp2_with fail
          go_region_held3 (fun w' => w'.cell? ⟨w.heap.size, 1, none⟩ = some (.int .u64 a1) ∧ w'.cell? ⟨w.heap.size + 1, 1, none⟩ = some (.int .u64 b1)) (simp [go_sem, m1, m5]) (fail)
          rename_i hh
          clear hh
          go_wp2_with fail
          rw [rounds_succ]
          go_wp2_with fail
          rcases tri a0 b0 with ⟨t0, h0⟩ | ⟨t0, u0, h0⟩ | ⟨t0, u0, h0⟩
          · go_region_held3 (fun w' => w'.cell? ⟨w.heap.size, 0, none⟩ = some (.int .u64 a0) ∧ w'.cell? ⟨w.heap.size + 1, 0, none⟩ = some (.int .u64 b0)) (simp [go_sem, m0, m4]) (fail)
            rename_i hh
            clear hh
            go_wp2_with fail
            go_ret
            refine ⟨?_, below_trans (by go_grown) (hbw.trans (by go_grown))⟩
            refine congrArg (fun z => Ending.returned (.int .i64 z)) (cmpZ_lt ?_).symm
            have hA := hva.out; have hB := hvb.out; have hh0 := h0.out; have hh1 := h1.out; have hh2 := h2.out; have hh3 := h3.out; unfold ngB at hA hB; rw [← hB] at hA; simp only [decide_eq_decide] at hA; unfold sv; unfold Wd at *; (repeat' split) <;> omega
          · go_region_held3 (fun w' => w'.cell? ⟨w.heap.size, 0, none⟩ = some (.int .u64 a0) ∧ w'.cell? ⟨w.heap.size + 1, 0, none⟩ = some (.int .u64 b0)) (simp [go_sem, m0, m4]) (fail)
            rename_i hh
            clear hh
            go_wp2_with fail
            go_region_held3 (fun w' => w'.cell? ⟨w.heap.size, 0, none⟩ = some (.int .u64 a0) ∧ w'.cell? ⟨w.heap.size + 1, 0, none⟩ = some (.int .u64 b0)) (simp [go_sem, m0, m4]) (fail)
            rename_i hh
            clear hh
            go_wp2_with fail
            go_ret
            refine ⟨?_, below_trans (by go_grown) (hbw.trans (by go_grown))⟩
            refine congrArg (fun z => Ending.returned (.int .i64 z)) (cmpZ_gt ?_).symm
            have hA := hva.out; have hB := hvb.out; have hh0 := h0.out; have hh1 := h1.out; have hh2 := h2.out; have hh3 := h3.out; unfold ngB at hA hB; rw [← hB] at hA; simp only [decide_eq_decide] at hA; unfold sv; unfold Wd at *; (repeat' split) <;> omega
          · go_region_held3 (fun w' => w'.cell? ⟨w.heap.size, 0, none⟩ = some (.int .u64 a0) ∧ w'.cell? ⟨w.heap.size + 1, 0, none⟩ = some (.int .u64 b0)) (simp [go_sem, m0, m4]) (fail)
            rename_i hh
            clear hh
            go_wp2_with fail
            go_region_held3 (fun w' => w'.cell? ⟨w.heap.size, 0, none⟩ = some (.int .u64 a0) ∧ w'.cell? ⟨w.heap.size + 1, 0, none⟩ = some (.int .u64 b0)) (simp [go_sem, m0, m4]) (fail)
            rename_i hh
            clear hh
            go_wp2_with fail
            rw [rounds_succ]
            go_wp2_with fail
            go_ret
            refine ⟨?_, below_trans (by go_grown) (hbw.trans (by go_grown))⟩
            refine congrArg (fun z => Ending.returned (.int .i64 z)) (cmpZ_eq ?_).symm
            have hA := hva.out; have hB := hvb.out; have hh0 := h0.out; have hh1 := h1.out; have hh2 := h2.out; have hh3 := h3.out; unfold ngB at hA hB; rw [← hB] at hA; simp only [decide_eq_decide] at hA; unfold sv; unfold Wd at *; (repeat' split) <;> omega
  · obtain rfl : vb = !va := by cases va <;> cases vb <;> simp at hab ⊢
    cases va
    · refine region_below (by kernel_rfl) (by kernel_rfl) (fun C hC1 hC2 => ?_)
      have l0 : ∀ w', C w' → w'.cell? ⟨w.heap.size, 0, none⟩ = some (.int .u64 a0) := class_cell hC1 (by (simp [go_sem]; done))
      have l1 : ∀ w', C w' → w'.cell? ⟨w.heap.size, 1, none⟩ = some (.int .u64 a1) := class_cell hC1 (by (simp [go_sem]; done))
      have l2 : ∀ w', C w' → w'.cell? ⟨w.heap.size, 2, none⟩ = some (.int .u64 a2) := class_cell hC1 (by (simp [go_sem]; done))
      have l3 : ∀ w', C w' → w'.cell? ⟨w.heap.size, 3, none⟩ = some (.int .u64 a3) := class_cell hC1 (by (simp [go_sem]; done))
      have l4 : ∀ w', C w' → w'.cell? ⟨w.heap.size + 1, 0, none⟩ = some (.int .u64 b0) := class_cell hC1 (by (simp [go_sem]; done))
      have l5 : ∀ w', C w' → w'.cell? ⟨w.heap.size + 1, 1, none⟩ = some (.int .u64 b1) := class_cell hC1 (by (simp [go_sem]; done))
      have l6 : ∀ w', C w' → w'.cell? ⟨w.heap.size + 1, 2, none⟩ = some (.int .u64 b2) := class_cell hC1 (by (simp [go_sem]; done))
      have l7 : ∀ w', C w' → w'.cell? ⟨w.heap.size + 1, 3, none⟩ = some (.int .u64 b3) := class_cell hC1 (by (simp [go_sem]; done))
      repeat (first
        | (go_big_quiet_want; apply quiet_intro; (intro w' hw; simp [go_sem, l0, l1, l2, l3, l4, l5, l6, l7, hw]; with_reducible exact rfl); (go_big_quiet_on; simp only [Act.put, List.setIfInBounds_toArray, List.set_cons_succ, List.set_cons_zero]))
        | (go_big_quiet_want; apply quiet_intro; (intro w' hw; simp [go_sem]; go_at_call 98; refine (below_v _ _ _ _ _ (by assumption) (by assumption) _).mono ?_; rintro e w'' ⟨he, hb⟩; exact ⟨he, hC2 _ _ hw hb⟩); (go_big_quiet_on; simp only [Act.put, List.setIfInBounds_toArray, List.set_cons_succ, List.set_cons_zero])))
      refine wpQuiet_nil ?_
      intro W2 hW2
      have hbw := hC1 W2 hW2
      have m0 : W2.cell? ⟨w.heap.size, 0, none⟩ = some (.int .u64 a0) := below_cell hbw (by (simp [go_sem]; done))
      have f0 : W2.frozen? ⟨w.heap.size, 0, none⟩ = false := below_frozen hbw (v := .int .u64 a0) (by (simp [go_sem]; done)) (by (simp [go_sem]; done))
      have m1 : W2.cell? ⟨w.heap.size, 1, none⟩ = some (.int .u64 a1) := below_cell hbw (by (simp [go_sem]; done))
      have f1 : W2.frozen? ⟨w.heap.size, 1, none⟩ = false := below_frozen hbw (v := .int .u64 a1) (by (simp [go_sem]; done)) (by (simp [go_sem]; done))
      have m2 : W2.cell? ⟨w.heap.size, 2, none⟩ = some (.int .u64 a2) := below_cell hbw (by (simp [go_sem]; done))
      have f2 : W2.frozen? ⟨w.heap.size, 2, none⟩ = false := below_frozen hbw (v := .int .u64 a2) (by (simp [go_sem]; done)) (by (simp [go_sem]; done))
      have m3 : W2.cell? ⟨w.heap.size, 3, none⟩ = some (.int .u64 a3) := below_cell hbw (by (simp [go_sem]; done))
      have f3 : W2.frozen? ⟨w.heap.size, 3, none⟩ = false := below_frozen hbw (v := .int .u64 a3) (by (simp [go_sem]; done)) (by (simp [go_sem]; done))
      clear l0 l1 l2 l3 l4 l5 l6 l7 hW2 hC1 hC2 C
      go_wp2_with fail
      refine (below_v a0 a1 a2 a3 false ha3 hva _).mono ?_
      rintro e w3 ⟨rfl, hb3⟩
      go_wp2_with fail
      go_ret
      refine ⟨?_, below_trans (by go_grown) (below_trans hbw hb3)⟩
      refine congrArg (fun z => Ending.returned (.int .i64 z)) (cmpZ_gt ?_).symm
      have hA := hva.out; have hB := hvb.out; unfold ngB at hA hB; simp only [Bool.not_true, Bool.not_false, decide_eq_true_eq, decide_eq_false_iff_not] at hA hB; unfold sv; unfold Wd at *; (repeat' split) <;> omega
    · refine region_below (by kernel_rfl) (by kernel_rfl) (fun C hC1 hC2 => ?_)
      have l0 : ∀ w', C w' → w'.cell? ⟨w.heap.size, 0, none⟩ = some (.int .u64 a0) := class_cell hC1 (by (simp [go_sem]; done))
      have l1 : ∀ w', C w' → w'.cell? ⟨w.heap.size, 1, none⟩ = some (.int .u64 a1) := class_cell hC1 (by (simp [go_sem]; done))
      have l2 : ∀ w', C w' → w'.cell? ⟨w.heap.size, 2, none⟩ = some (.int .u64 a2) := class_cell hC1 (by (simp [go_sem]; done))
      have l3 : ∀ w', C w' → w'.cell? ⟨w.heap.size, 3, none⟩ = some (.int .u64 a3) := class_cell hC1 (by (simp [go_sem]; done))
      have l4 : ∀ w', C w' → w'.cell? ⟨w.heap.size + 1, 0, none⟩ = some (.int .u64 b0) := class_cell hC1 (by (simp [go_sem]; done))
      have l5 : ∀ w', C w' → w'.cell? ⟨w.heap.size + 1, 1, none⟩ = some (.int .u64 b1) := class_cell hC1 (by (simp [go_sem]; done))
      have l6 : ∀ w', C w' → w'.cell? ⟨w.heap.size + 1, 2, none⟩ = some (.int .u64 b2) := class_cell hC1 (by (simp [go_sem]; done))
      have l7 : ∀ w', C w' → w'.cell? ⟨w.heap.size + 1, 3, none⟩ = some (.int .u64 b3) := class_cell hC1 (by (simp [go_sem]; done))
      repeat (first
        | (go_big_quiet_want; apply quiet_intro; (intro w' hw; simp [go_sem, l0, l1, l2, l3, l4, l5, l6, l7, hw]; with_reducible exact rfl); (go_big_quiet_on; simp only [Act.put, List.setIfInBounds_toArray, List.set_cons_succ, List.set_cons_zero]))
        | (go_big_quiet_want; apply quiet_intro; (intro w' hw; simp [go_sem]; go_at_call 98; refine (below_v _ _ _ _ _ (by assumption) (by assumption) _).mono ?_; rintro e w'' ⟨he, hb⟩; exact ⟨he, hC2 _ _ hw hb⟩); (go_big_quiet_on; simp only [Act.put, List.setIfInBounds_toArray, List.set_cons_succ, List.set_cons_zero])))
      refine wpQuiet_nil ?_
      intro W2 hW2
      have hbw := hC1 W2 hW2
      have m0 : W2.cell? ⟨w.heap.size, 0, none⟩ = some (.int .u64 a0) := below_cell hbw (by (simp [go_sem]; done))
      have f0 : W2.frozen? ⟨w.heap.size, 0, none⟩ = false := below_frozen hbw (v := .int .u64 a0) (by (simp [go_sem]; done)) (by (simp [go_sem]; done))
      have m1 : W2.cell? ⟨w.heap.size, 1, none⟩ = some (.int .u64 a1) := below_cell hbw (by (simp [go_sem]; done))
      have f1 : W2.frozen? ⟨w.heap.size, 1, none⟩ = false := below_frozen hbw (v := .int .u64 a1) (by (simp [go_sem]; done)) (by (simp [go_sem]; done))
      have m2 : W2.cell? ⟨w.heap.size, 2, none⟩ = some (.int .u64 a2) := below_cell hbw (by (simp [go_sem]; done))
      have f2 : W2.frozen? ⟨w.heap.size, 2, none⟩ = false := below_frozen hbw (v := .int .u64 a2) (by (simp [go_sem]; done)) (by (simp [go_sem]; done))
      have m3 : W2.cell? ⟨w.heap.size, 3, none⟩ = some (.int .u64 a3) := below_cell hbw (by (simp [go_sem]; done))
      have f3 : W2.frozen? ⟨w.heap.size, 3, none⟩ = false := below_frozen hbw (v := .int .u64 a3) (by (simp [go_sem]; done)) (by (simp [go_sem]; done))
      clear l0 l1 l2 l3 l4 l5 l6 l7 hW2 hC1 hC2 C
      go_wp2_with fail
      refine (below_v a0 a1 a2 a3 true ha3 hva _).mono ?_
      rintro e w3 ⟨rfl, hb3⟩
      go_wp2_with fail
      go_ret
      refine ⟨?_, below_trans (by go_grown) (below_trans hbw hb3)⟩
      refine congrArg (fun z => Ending.returned (.int .i64 z)) (cmpZ_lt ?_).symm
      have hA := hva.out; have hB := hvb.out; unfold ngB at hA hB; simp only [Bool.not_true, Bool.not_false, decide_eq_true_eq, decide_eq_false_iff_not] at hA hB; unfold sv; unfold Wd at *; (repeat' split) <;> omega
end Go.Proofs.Ytdgpdafkngoegaa
