/-
  The walks of layer 3 (wide): parts.
-/
import Derived.Test.YtmmieilogpmocaaWide5
import Derived.Test.YtmmieilogpmocaaWideG
namespace Go.Proofs.Ytmmieilogpmocaa
set_option linter.unusedVariables false
set_option linter.unusedSimpArgs false
open Go.RowKit

set_option maxRecDepth 100000 in
set_option maxHeartbeats 4000000 in
theorem parts_any (x y : Int) (hx : M512 x) (hx2 : x < 115792089237316195423570985008687907853269984665640564039457584007913129639936) (hy : M512 y) (hy0 : 0 < y) (hy2 : y < 115792089237316195423570985008687907853269984665640564039457584007913129639936) (w : World) :
    Calls Try.prog 85 #[mV x, mV y] w fun e w' => e = .returned (.tuple #[mV (x / y), mV (x % y)]) ∧ Below w.heap.size w w' := by
  obtain ⟨a0, a1, a2, a3, a4, a5, a6, a7, ha0, ha1, ha2, ha3, ha4, ha5, ha6, ha7, hmx, eX⟩ := mV_words x hx
  obtain ⟨b0, b1, b2, b3, b4, b5, b6, b7, hb0, hb1, hb2, hb3, hb4, hb5, hb6, hb7, hmy, eY⟩ := mV_words y hy
  have ex : (mL x).toArray = #[.int .u64 a0, .int .u64 a1, .int .u64 a2, .int .u64 a3, .int .u64 a4, .int .u64 a5, .int .u64 a6, .int .u64 a7] := by injection eX
  have ey : (mL y).toArray = #[.int .u64 b0, .int .u64 b1, .int .u64 b2, .int .u64 b3, .int .u64 b4, .int .u64 b5, .int .u64 b6, .int .u64 b7] := by injection eY
  have nx : ∀ (w : World) (k : Nat), k = w.heap.size → MagAt (w.alloc (.cells #[.int .u64 a0, .int .u64 a1, .int .u64 a2, .int .u64 a3, .int .u64 a4, .int .u64 a5, .int .u64 a6, .int .u64 a7] 95)) k x := fun w k hk => by rw [hk, ← ex]; exact MagAt.new w x _
  have ny : ∀ (w : World) (k : Nat), k = w.heap.size → MagAt (w.alloc (.cells #[.int .u64 b0, .int .u64 b1, .int .u64 b2, .int .u64 b3, .int .u64 b4, .int .u64 b5, .int .u64 b6, .int .u64 b7] 95)) k y := fun w k hk => by rw [hk, ← ey]; exact MagAt.new w y _
  have nz : ∀ (w : World) (k : Nat), k = w.heap.size → MagAt (w.alloc (.cells #[.int .u64 0, .int .u64 0, .int .u64 0, .int .u64 0, .int .u64 0, .int .u64 0, .int .u64 0, .int .u64 0] 95)) k 0 := fun w k hk => by rw [hk]; exact MagAt.new w 0 _
  have hX := Lib.hid hx2
  rw [eX, eY]
  clear hmx hmy ex ey eX eY ha0 ha1 ha2 ha3 ha4 ha5 ha6 ha7 hb0 hb1 hb2 hb3 hb4 hb5 hb6 hb7
  go_enter Try.func85, Try.ntmps85
  go_wp2
  go_loopg [8] 256 (fun k i wr => k ≤ 256 ∧ i = .int .i64 ((k : Int) - 1) ∧ MagAt wr (w.heap.size) x ∧ MagAt wr (w.heap.size + 1) y ∧ MagAt wr (w.heap.size + 1 + 1) 0 ∧ MagAt wr (w.heap.size + 1 + 1 + 1) 0 ∧ MagAt wr (w.heap.size + 1 + 1 + 1 + 1) (x / 2 ^ k / y) ∧ MagAt wr (w.heap.size + 1 + 1 + 1 + 1 + 1) (x / 2 ^ k % y) ∧ Below w.heap.size w wr)
  case atStart =>
    have e0 : x / 2 ^ 256 = 0 := Int.ediv_eq_zero_of_lt ((M512_iff x).1 hx).1 hx2
    rw [e0, Int.zero_ediv, Int.zero_emod]
    refine ⟨Nat.le_refl _, rfl, ?_, ?_, ?_, ?_, ?_, ?_, by go_grown⟩
    · repeat (first | (refine nx _ _ ?_; simp; done) | apply MagAt.alloc)
    · repeat (first | (refine ny _ _ ?_; simp; done) | apply MagAt.alloc)
    · repeat (first | (refine nz _ _ ?_; simp; done) | apply MagAt.alloc)
    · repeat (first | (refine nz _ _ ?_; simp; done) | apply MagAt.alloc)
    · repeat (first | (refine nz _ _ ?_; simp; done) | apply MagAt.alloc)
    · repeat (refine nz _ _ ?_; simp; done)
  case round =>
    obtain ⟨hk, rfl, mx, my, m2, m3, mq, mr, hb⟩ := hrel
    by_cases hlt : 0 < gk
    · obtain ⟨j, rfl⟩ : ∃ j, gk = j + 1 := ⟨gk - 1, by omega⟩
      obtain ⟨d, s, hd, hs, hds⟩ : ∃ d s : Nat, d < 4 ∧ s < 64 ∧ j = 64 * d + s := ⟨j / 64, j % 64, by omega, by omega, by omega⟩
      have ej : ((j + 1 : Nat) : Int) - 1 = (j : Int) := by omega
      rw [ej]
      have j0 : (0 : Int) ≤ (j : Int) := Int.natCast_nonneg _
      have eq1 : (j : Int).tdiv 64 = (d : Int) := by rw [Int.tdiv_eq_ediv_of_nonneg j0]; omega
      have er1 : (j : Int).tmod 64 = (s : Int) := by rw [Int.tmod_eq_emod_of_nonneg j0]; omega
      have ed : IntKind.i64.wrap (d : Int) = d := IntWalk.i64_in _ (by omega)
      have es : IntKind.i64.wrap (s : Int) = s := IntWalk.i64_in _ (by omega)
      have d8 : (d : Int) < 8 := by omega
      have s0 : (0 : Int) ≤ (s : Int) := by omega
      have x0 : 0 ≤ x := ((M512_iff x).1 hx).1
      have X0 : 0 ≤ x / 2 ^ (j + 1) := Int.ediv_nonneg x0 (Int.pow_nonneg (by omega))
      have hbit := bit_any x x0 d s hs
      rw [← hds] at hbit
      have hhalf := half_step x j x0
      obtain ⟨c, hc⟩ : ∃ c, x / 2 ^ j % 2 = c := ⟨_, rfl⟩
      rw [hc] at hbit hhalf
      have c01 : 0 ≤ c ∧ c ≤ 1 := by omega
      have hdiv := div_step (x / 2 ^ (j + 1)) y c hy0 X0 c01.1 c01.2
      rw [← hhalf] at hdiv
      have hR0 := Int.emod_nonneg (x / 2 ^ (j + 1)) (show y ≠ 0 by omega)
      have hR1 := Int.emod_lt_of_pos (x / 2 ^ (j + 1)) hy0
      have hZ0 : 0 ≤ x / 2 ^ (j + 1) / y := Int.ediv_nonneg X0 (by omega)
      have hZ1 : x / 2 ^ (j + 1) / y < 115792089237316195423570985008687907853269984665640564039457584007913129639936 := by
        refine Int.lt_of_le_of_lt (Int.ediv_le_self _ X0) (Int.lt_of_le_of_lt (Int.ediv_le_self _ x0) hx2)
      have hD := Lib.hid hds
      have HK1 := Lib.hid hk
      clear hds hk ej
      go_wp2
      obtain ⟨R, hR⟩ : ∃ R, x / 2 ^ (j + 1) % y = R := ⟨_, rfl⟩
      obtain ⟨Z, hZ⟩ : ∃ Z, x / 2 ^ (j + 1) / y = Z := ⟨_, rfl⟩
      obtain ⟨W0, hW0⟩ : ∃ W0, x / 18446744073709551616 ^ d % 18446744073709551616 = W0 := ⟨_, rfl⟩
      have mw := mx.word (k := d) (by omega)
      rw [hR] at mr hdiv hR0 hR1
      rw [hZ] at mq hdiv hZ0 hZ1
      rw [hW0] at mw hbit
      have HR := Lib.hid hR
      have HZ := Lib.hid hZ
      have HW := Lib.hid hW0
      clear hR hZ hW0
      refine region_below_tail 10 (by kernel_rfl) (by kernel_rfl) (fun C hC1 hC2 => ?_)
      simp only [List.take_succ_cons, List.take_zero, List.drop_succ_cons, List.drop_zero]
      have l0 : ∀ w', C w' → (Instr.loadAt 95 (.pointer (some ⟨w.heap.size + 1 + 1 + 1 + 1 + 1, 0, none⟩))).run Try.prog w' = .ok (mV R) w' := fun w' h => load_mag (mr.below (hC1 w' h))
      have l1 : ∀ w', C w' → w'.cell? ⟨w.heap.size, d, none⟩ = some (.int .u64 W0) := class_cell hC1 mw
      go_big_quiet_want
      refine quiet_load rfl rfl l0 ?_
      (go_big_quiet_on; simp only [Act.put, List.setIfInBounds_toArray, List.set_cons_succ, List.set_cons_zero])
      repeat (first
        | (go_big_quiet_want; go_big_quiet_op; go_big_quiet_on)
        | (go_big_quiet_want; apply quiet_intro; (intro w' hw; simp [go_sem, l1, hw, eq1, er1, ed, es, d8]; with_reducible exact rfl); (go_big_quiet_on; simp only [Act.put, List.setIfInBounds_toArray, List.set_cons_succ, List.set_cons_zero])))
      have hT : (2 * R + c) % 13407807929942597099574024998205846127479365820592393377723561443721764030073546976801874298166903427690031858186486050853753882811946569946433649006084096 = 2 * R + c := Int.emod_eq_of_lt (by omega) (by omega)
      have hTR : M512 R := (M512_iff R).2 (by unfold big; omega)
      have hT1 : M512 (2 * R + c) := (M512_iff _).2 (by unfold big; omega)
      have htw := fun w => twice_any R c hTR c01.1 c01.2 w
      rw [hT] at htw
      have hTZ : M512 Z := (M512_iff Z).2 (by unfold big; omega)
      obtain ⟨R1, hR1e⟩ : ∃ R1, 2 * R + c = R1 := ⟨_, rfl⟩
      rw [hR1e] at htw hT1 hdiv
      have hcmp := fun w => cmp_any R1 y hT1 hy w
      have HC := Lib.hid (And.intro hZ0 (And.intro hZ1 hdiv))
      clear hT hTR hdiv hhalf hR0 hR1 hZ0 hZ1 hR1e X0 x0 c01
      (go_big_quiet_want; apply quiet_intro; (intro w' hw; simp [go_sem]; rw [hbit]; go_at_call 102; refine (htw _).mono ?_; rintro e w'' ⟨he, hb'⟩; exact ⟨he, hC2 _ _ hw hb'⟩); (go_big_quiet_on; simp only [Act.put, List.setIfInBounds_toArray, List.set_cons_succ, List.set_cons_zero]))
      refine wpQuiet_nil ?_
      intro W2 hW2
      have hb2 := hC1 W2 hW2
      clear l0 l1 hW2 hC1 hC2 C mw
      replace mx := mx.below hb2
      replace my := my.below hb2
      replace m2 := m2.below hb2
      replace m3 := m3.below hb2
      replace mq := mq.below hb2
      replace mr := mr.below hb2
      replace hb := below_trans hb hb2
      refine wpList_storeM rfl rfl rfl rfl mr ?_
      simp only [Act.put, List.setIfInBounds_toArray, List.set_cons_succ, List.set_cons_zero]
      replace mx := setM_other (b := w.heap.size + 1 + 1 + 1 + 1 + 1) (R1) mx (by omega)
      replace my := setM_other (b := w.heap.size + 1 + 1 + 1 + 1 + 1) (R1) my (by omega)
      replace m2 := setM_other (b := w.heap.size + 1 + 1 + 1 + 1 + 1) (R1) m2 (by omega)
      replace m3 := setM_other (b := w.heap.size + 1 + 1 + 1 + 1 + 1) (R1) m3 (by omega)
      replace mq := setM_other (b := w.heap.size + 1 + 1 + 1 + 1 + 1) (R1) mq (by omega)
      replace mr := setM_same (R1) mr
      replace hb := setM_below (b := w.heap.size + 1 + 1 + 1 + 1 + 1) hb (by omega) (R1)
      by_cases hge : y ≤ R1
      · have hcz : decide ((0 : Int) ≤ cmpZ R1 y) = true := by unfold cmpZ; split <;> (try split) <;> simp <;> omega
        obtain ⟨cz, hcze⟩ : ∃ cz, cmpZ R1 y = cz := ⟨_, rfl⟩
        rw [hcze] at hcz hcmp
        have hless := fun w => less_any R1 y hT1 hy hge w
        have htq : ∀ w, _ := fun w => twice_any Z 1 hTZ (by omega) (by omega) w
        have hTq : (2 * Z + 1) % 13407807929942597099574024998205846127479365820592393377723561443721764030073546976801874298166903427690031858186486050853753882811946569946433649006084096 = 2 * Z + 1 := Int.emod_eq_of_lt (by have := HC.out; omega) (by have := HC.out; omega)
        rw [hTq] at htq
        have HG := Lib.hid hge
        clear hcze hge hTq
        repeat (first
          | (refine wpList_loadM rfl rfl rfl (by (with_reducible assumption)) ?_; simp only [Act.put, List.setIfInBounds_toArray, List.set_cons_succ, List.set_cons_zero])
          | go_step)
        refine (hcmp _).mono ?_
        rintro e w3 ⟨rfl, hb3⟩
        dsimp only
        replace mx := mx.below hb3
        replace my := my.below hb3
        replace m2 := m2.below hb3
        replace m3 := m3.below hb3
        replace mq := mq.below hb3
        replace mr := mr.below hb3
        replace hb := below_trans hb hb3
        repeat (first
          | (refine wpList_loadM rfl rfl rfl (by (with_reducible assumption)) ?_; simp only [Act.put, List.setIfInBounds_toArray, List.set_cons_succ, List.set_cons_zero])
          | go_step)
        refine (hless _).mono ?_
        rintro e w4 ⟨rfl, hb4⟩
        dsimp only
        replace mx := mx.below hb4
        replace my := my.below hb4
        replace m2 := m2.below hb4
        replace m3 := m3.below hb4
        replace mq := mq.below hb4
        replace mr := mr.below hb4
        replace hb := below_trans hb hb4
        repeat (first
          | (refine wpList_loadM rfl rfl rfl (by first | (with_reducible assumption) | (with_reducible exact setM_same _ (by with_reducible assumption)) | (with_reducible exact setM_other _ (by with_reducible assumption) (by omega))) ?_; simp only [Act.put, List.setIfInBounds_toArray, List.set_cons_succ, List.set_cons_zero])
          | (refine wpList_storeM rfl rfl rfl rfl (by with_reducible assumption) ?_; simp only [Act.put, List.setIfInBounds_toArray, List.set_cons_succ, List.set_cons_zero])
          | go_step)
        replace mx := setM_other (b := w.heap.size + 1 + 1 + 1 + 1 + 1) (R1 - y) mx (by omega)
        replace my := setM_other (b := w.heap.size + 1 + 1 + 1 + 1 + 1) (R1 - y) my (by omega)
        replace m2 := setM_other (b := w.heap.size + 1 + 1 + 1 + 1 + 1) (R1 - y) m2 (by omega)
        replace m3 := setM_other (b := w.heap.size + 1 + 1 + 1 + 1 + 1) (R1 - y) m3 (by omega)
        replace mq := setM_other (b := w.heap.size + 1 + 1 + 1 + 1 + 1) (R1 - y) mq (by omega)
        replace mr := setM_same (R1 - y) mr
        replace hb := setM_below (b := w.heap.size + 1 + 1 + 1 + 1 + 1) hb (by omega) (R1 - y)
        refine (htq _).mono ?_
        rintro e w5 ⟨rfl, hb5⟩
        dsimp only
        replace mx := mx.below hb5
        replace my := my.below hb5
        replace m2 := m2.below hb5
        replace m3 := m3.below hb5
        replace mq := mq.below hb5
        replace mr := mr.below hb5
        replace hb := below_trans hb hb5
        repeat (first
          | (refine wpList_storeM rfl rfl rfl rfl (by with_reducible assumption) ?_; simp only [Act.put, List.setIfInBounds_toArray, List.set_cons_succ, List.set_cons_zero])
          | go_step)
        replace mx := setM_other (b := w.heap.size + 1 + 1 + 1 + 1) (2 * Z + 1) mx (by omega)
        replace my := setM_other (b := w.heap.size + 1 + 1 + 1 + 1) (2 * Z + 1) my (by omega)
        replace m2 := setM_other (b := w.heap.size + 1 + 1 + 1 + 1) (2 * Z + 1) m2 (by omega)
        replace m3 := setM_other (b := w.heap.size + 1 + 1 + 1 + 1) (2 * Z + 1) m3 (by omega)
        replace mq := setM_same (2 * Z + 1) mq
        replace mr := setM_other (b := w.heap.size + 1 + 1 + 1 + 1) (2 * Z + 1) mr (by omega)
        replace hb := setM_below (b := w.heap.size + 1 + 1 + 1 + 1) hb (by omega) (2 * Z + 1)
        go_roundg j
        case rel =>
          obtain ⟨z0, z1, hge', hlt'⟩ := HC.out
          have hq := hge' HG.out
          have hk := HK1.out
          refine ⟨by omega, congrArg (Value.int .i64) (by unfold wrap64; omega), mx, my, m2, m3, ?_, ?_, hb⟩
          · rw [hq.1]; exact mq
          · rw [hq.2]; exact mr
        case measure => omega
      · have hcz : decide ((0 : Int) ≤ cmpZ R1 y) = false := by unfold cmpZ; split <;> (try split) <;> simp <;> omega
        obtain ⟨cz, hcze⟩ : ∃ cz, cmpZ R1 y = cz := ⟨_, rfl⟩
        rw [hcze] at hcz hcmp
        have htq : ∀ w, _ := fun w => twice_any Z 0 hTZ (by omega) (by omega) w
        have hTq : (2 * Z + 0) % 13407807929942597099574024998205846127479365820592393377723561443721764030073546976801874298166903427690031858186486050853753882811946569946433649006084096 = 2 * Z := by rw [Int.add_zero]; exact Int.emod_eq_of_lt (by have := HC.out; omega) (by have := HC.out; omega)
        rw [hTq] at htq
        have HG := Lib.hid (show R1 < y by omega)
        clear hcze hge hTq
        repeat (first
          | (refine wpList_loadM rfl rfl rfl (by (with_reducible assumption)) ?_; simp only [Act.put, List.setIfInBounds_toArray, List.set_cons_succ, List.set_cons_zero])
          | go_step)
        refine (hcmp _).mono ?_
        rintro e w3 ⟨rfl, hb3⟩
        dsimp only
        replace mx := mx.below hb3
        replace my := my.below hb3
        replace m2 := m2.below hb3
        replace m3 := m3.below hb3
        replace mq := mq.below hb3
        replace mr := mr.below hb3
        replace hb := below_trans hb hb3
        repeat (first
          | (refine wpList_loadM rfl rfl rfl (by (with_reducible assumption)) ?_; simp only [Act.put, List.setIfInBounds_toArray, List.set_cons_succ, List.set_cons_zero])
          | go_step)
        refine (htq _).mono ?_
        rintro e w5 ⟨rfl, hb5⟩
        dsimp only
        replace mx := mx.below hb5
        replace my := my.below hb5
        replace m2 := m2.below hb5
        replace m3 := m3.below hb5
        replace mq := mq.below hb5
        replace mr := mr.below hb5
        replace hb := below_trans hb hb5
        repeat (first
          | (refine wpList_storeM rfl rfl rfl rfl (by with_reducible assumption) ?_; simp only [Act.put, List.setIfInBounds_toArray, List.set_cons_succ, List.set_cons_zero])
          | go_step)
        replace mx := setM_other (b := w.heap.size + 1 + 1 + 1 + 1) (2 * Z) mx (by omega)
        replace my := setM_other (b := w.heap.size + 1 + 1 + 1 + 1) (2 * Z) my (by omega)
        replace m2 := setM_other (b := w.heap.size + 1 + 1 + 1 + 1) (2 * Z) m2 (by omega)
        replace m3 := setM_other (b := w.heap.size + 1 + 1 + 1 + 1) (2 * Z) m3 (by omega)
        replace mq := setM_same (2 * Z) mq
        replace mr := setM_other (b := w.heap.size + 1 + 1 + 1 + 1) (2 * Z) mr (by omega)
        replace hb := setM_below (b := w.heap.size + 1 + 1 + 1 + 1) hb (by omega) (2 * Z)
        go_roundg j
        case rel =>
          obtain ⟨z0, z1, hge', hlt'⟩ := HC.out
          have hq := hlt' HG.out
          have hk := HK1.out
          refine ⟨by omega, congrArg (Value.int .i64) (by unfold wrap64; omega), mx, my, m2, m3, ?_, ?_, hb⟩
          · rw [hq.1]; exact mq
          · rw [hq.2]; exact mr
        case measure => omega
    · obtain rfl : gk = 0 := by omega
      have em : ((0 : Nat) : Int) - 1 = -1 := rfl
      have ex0 : x / 2 ^ 0 = x := by simp
      rw [em]
      rw [ex0] at mq mr
      clear hlt em ex0 hk
      repeat (go_step)
      refine wp_region_held_drew (S := fun w' => MagAt w' (w.heap.size + 1 + 1 + 1 + 1) (x / y) ∧ MagAt w' (w.heap.size + 1 + 1 + 1 + 1 + 1) (x % y) ∧ ∃ m, MagAt w' (w.heap.size + 1 + 1 + 1) m) (by kernel_rfl) ⟨mq.drew, mr.drew, 0, m3.drew⟩ (fun hS => ?_)
      refine wpAnyH_take (i := 0) rfl (by kernel_rfl) (by kernel_rfl) (by kernel_rfl) (fun _ _ _ h => h) (yieldsIf_loadM (by rfl) rfl rfl (fun w h => h.1)) hS ?_
      simp only [List.getElem_toArray, List.getElem_cons_succ, List.getElem_cons_zero, Act.put, List.setIfInBounds_toArray, List.set_cons_succ, List.set_cons_zero]
      refine wpAnyH_take (i := 1) rfl (by kernel_rfl) (by kernel_rfl) (by kernel_rfl) (fun _ _ _ h => h) (yieldsIf_loadM (by rfl) rfl rfl (fun w h => h.2.1)) hS ?_
      simp only [List.getElem_toArray, List.getElem_cons_succ, List.getElem_cons_zero, Act.put, List.setIfInBounds_toArray, List.set_cons_succ, List.set_cons_zero]
      refine anyH_storeM 2 (by kernel_rfl) rfl rfl rfl rfl rfl rfl m2.drew ⟨setM_other _ mq.drew (by omega), setM_other _ mr.drew (by omega), 0, setM_other _ m3.drew (by omega)⟩ ?_
      have h2 := setM_same (x / y) m2.drew
      have h3 := setM_other (b := w.heap.size + 1 + 1) (x / y) m3.drew (by omega)
      have h4 := setM_other (b := w.heap.size + 1 + 1) (x / y) mq.drew (by omega)
      have h5 := setM_other (b := w.heap.size + 1 + 1) (x / y) mr.drew (by omega)
      refine anyH_storeM 3 (by kernel_rfl) rfl rfl rfl rfl rfl rfl h3 ⟨setM_other _ h4 (by omega), setM_other _ h5 (by omega), _, setM_same _ h3⟩ ?_
      refine wpAnyH_done (by kernel_rfl) ?_ _
      have r2 := loadVar_mag (setM_other (b := w.heap.size + 1 + 1 + 1) (x % y) h2 (by omega))
      have r3 := loadVar_mag (setM_same (x % y) h3)
      have hB := setM_below (b := w.heap.size + 1 + 1 + 1) (setM_below (b := w.heap.size + 1 + 1) hb.drew (by omega) (x / y)) (by omega) (x % y)
      clear mx my m2 m3 mq mr h2 h3 h4 h5 hS nx ny nz
      repeat go_step
      refine bodyPost_ret (v := .tuple #[mV (x / y), mV (x % y)]) ?_ rfl ⟨rfl, hB⟩
      simp [results, Try.results85, asAddr, r2, r3]
end Go.Proofs.Ytmmieilogpmocaa
