/-
  The walks of the small functions of layer 5's statements: in, flip, move, awake.
-/
import Derived.Test.YtmmieilogpmocaaAt
namespace Go.Proofs.Ytmmieilogpmocaa
set_option linter.unusedVariables false
set_option linter.unusedSimpArgs false
open Go.RowKit

set_option maxRecDepth 100000 in
set_option maxHeartbeats 4000000 in
theorem lawIn_any (L : List Pt) (A : Option Addr) (cap : Nat) (F : Nat → Prop) (w : World) (hs : Sl F w A (ptL L)) (hl : L.length ≤ 1000000) :
    Calls Try.prog 20 #[.slice A L.length cap] w fun e w' => e = .returned (.bool (L.all inB)) ∧ Below w.heap.size w w' := by
  obtain ⟨v, hv⟩ : ∃ v, L.all inB = v := ⟨_, rfl⟩
  have HV := Lib.hid hv
  rw [hv]; clear hv
  obtain ⟨b0, o0, H0, f0⟩ := (Own.start w).addSl (hs.ro (by rfl))
  clear hs
  go_enter Try.func20, Try.ntmps20
  go_wp2_with fail
  go_loopg [3] L.length (fun k i wr => k ≤ L.length ∧ i = .int .i64 ((L.length - k : Nat) : Int) ∧ (L.take (L.length - k)).all inB = true ∧ Own w.heap.size w wr [.rd A b0 o0 (ptL L)])
  case atStart => exact ⟨Nat.le_refl _, by simp, by simp, H0⟩
  case round =>
    clear H0
    obtain ⟨hk, rfl, ht, H⟩ := hrel
    have HT := Lib.hid ht
    clear ht
    by_cases hlt : 0 < gk
    · obtain ⟨j, hj⟩ : ∃ j, L.length - gk = j := ⟨_, rfl⟩
      have hjl : j < L.length := by omega
      rw [hj] at HT ⊢
      obtain rfl := H.rdAddr m0 (by have := ptL_at L j hjl; cases hp : ptL L with | nil => rw [hp] at this; simp at this | cons x l => simp)
      have hp := at_rdN (A := some ⟨b0, o0, none⟩) (b := b0) (off := o0) (xs := ptL L) (j := j * 2) (cs := [.int .i64 L[j].x, .int .i64 L[j].y]) (ptL_at L j hjl)
      have hin := refIn_any L[j].x L[j].y
      obtain ⟨x, hx⟩ : ∃ x, L[j].x = x := ⟨_, rfl⟩
      obtain ⟨y, hy⟩ : ∃ y, L[j].y = y := ⟨_, rfl⟩
      obtain ⟨v1, hv1⟩ : ∃ v, inB L[j] = v := ⟨_, rfl⟩
      have e1 : inB ⟨L[j].x, L[j].y⟩ = v1 := hv1
      rw [e1] at hin
      rw [hx, hy] at hin hp
      have HV1 := Lib.hid hv1
      have HJ := Lib.hid hj
      clear hx hy hv1 e1 hj
      cases v1
      · go_wp2_with (first
          | (go_at_call 27; (with_reducible refine (hin _).mono ?_); rintro e w3 ⟨rfl, hb⟩; replace H := H.ext hb; clear hb; dsimp only)
          | (guard_target =~ wpList _ _ _ (_ :: _) _ _; (guard_target =~ wpList _ _ _ (Oper.mk _ (.load _ _) _ _ _ _ :: _) _ _; refine BigFrame.wpList_want rfl (fun K hK => ?_); (refine o_loadN (cs := ?_) (r := ?_) rfl rfl H ?_ ?_ ?_ ?_ (hK _ _ ?_); rotate_left 2; (with_reducible assumption); (repeat first | exact .head _ | apply List.Mem.tail); (focus (intro _; simp; done)); (focus (intro _; simp; done))); clear hK K); simp only [Act.put, List.setIfInBounds_toArray, List.set_cons_succ, List.set_cons_zero]))
        go_ret
        exact ⟨ret_b (by rw [← HV.out, all_no L j hjl HV1.out]), H.below⟩
      · go_wp2_with (first
          | (go_at_call 27; (with_reducible refine (hin _).mono ?_); rintro e w3 ⟨rfl, hb⟩; replace H := H.ext hb; clear hb; dsimp only)
          | (guard_target =~ wpList _ _ _ (_ :: _) _ _; (guard_target =~ wpList _ _ _ (Oper.mk _ (.load _ _) _ _ _ _ :: _) _ _; refine BigFrame.wpList_want rfl (fun K hK => ?_); (refine o_loadN (cs := ?_) (r := ?_) rfl rfl H ?_ ?_ ?_ ?_ (hK _ _ ?_); rotate_left 2; (with_reducible assumption); (repeat first | exact .head _ | apply List.Mem.tail); (focus (intro _; simp; done)); (focus (intro _; simp; done))); clear hK K); simp only [Act.put, List.setIfInBounds_toArray, List.set_cons_succ, List.set_cons_zero]))
        go_roundg (gk - 1)
        case rel => exact ⟨by omega, by have := HJ.out; congr 1; omega, by rw [show L.length - (gk - 1) = j + 1 by have := HJ.out; omega, all_take L j hjl _ HV1.out, HT.out]; rfl, H⟩
        case measure => omega
    · obtain rfl : gk = 0 := by omega
      have tk0 : True := trivial
      go_wp2_with (first | fail)
      go_ret
      exact ⟨ret_b (by rw [← HV.out, ← HT.out, Nat.sub_zero, List.take_length]), H.below⟩
theorem lin3 (ax ay bx b_y cx cy : Int) (b : Nat) (w : World) (hs : Sl (fun _ => False) w (some ⟨b, 0, none⟩) [.int .i64 ax, .int .i64 ay, .int .i64 bx, .int .i64 b_y, .int .i64 cx, .int .i64 cy]) :
    Calls Try.prog 20 #[.slice (some ⟨b, 0, none⟩) 3 3] w fun e w' => e = .returned (.bool (inB ⟨ax, ay⟩ && (inB ⟨bx, b_y⟩ && inB ⟨cx, cy⟩))) ∧ Below w.heap.size w w' := by
  have h := lawIn_any [⟨ax, ay⟩, ⟨bx, b_y⟩, ⟨cx, cy⟩] (some ⟨b, 0, none⟩) 3 (fun _ => False) w hs (by simp)
  simpa using h
theorem lin4 (ax ay bx b_y cx cy dx dy : Int) (b : Nat) (w : World) (hs : Sl (fun _ => False) w (some ⟨b, 0, none⟩) [.int .i64 ax, .int .i64 ay, .int .i64 bx, .int .i64 b_y, .int .i64 cx, .int .i64 cy, .int .i64 dx, .int .i64 dy]) :
    Calls Try.prog 20 #[.slice (some ⟨b, 0, none⟩) 4 4] w fun e w' => e = .returned (.bool (inB ⟨ax, ay⟩ && (inB ⟨bx, b_y⟩ && (inB ⟨cx, cy⟩ && inB ⟨dx, dy⟩)))) ∧ Below w.heap.size w w' := by
  have h := lawIn_any [⟨ax, ay⟩, ⟨bx, b_y⟩, ⟨cx, cy⟩, ⟨dx, dy⟩] (some ⟨b, 0, none⟩) 4 (fun _ => False) w hs (by simp)
  simpa using h
theorem lin5 (ax ay bx b_y cx cy dx dy ex ey : Int) (b : Nat) (w : World) (hs : Sl (fun _ => False) w (some ⟨b, 0, none⟩) [.int .i64 ax, .int .i64 ay, .int .i64 bx, .int .i64 b_y, .int .i64 cx, .int .i64 cy, .int .i64 dx, .int .i64 dy, .int .i64 ex, .int .i64 ey]) :
    Calls Try.prog 20 #[.slice (some ⟨b, 0, none⟩) 5 5] w fun e w' => e = .returned (.bool (inB ⟨ax, ay⟩ && (inB ⟨bx, b_y⟩ && (inB ⟨cx, cy⟩ && (inB ⟨dx, dy⟩ && inB ⟨ex, ey⟩))))) ∧ Below w.heap.size w w' := by
  have h := lawIn_any [⟨ax, ay⟩, ⟨bx, b_y⟩, ⟨cx, cy⟩, ⟨dx, dy⟩, ⟨ex, ey⟩] (some ⟨b, 0, none⟩) 5 (fun _ => False) w hs (by simp)
  simpa using h
set_option maxRecDepth 100000 in
set_option maxHeartbeats 4000000 in
theorem flip_any (x y : Int) (w : World) : Calls Try.prog 41 #[pV x y] w fun e w' => e = .returned (pV y x) ∧ Below w.heap.size w w' := by
  have H := Own.start w
  go_enter Try.func41, Try.ntmps41
  have tk0 : True := trivial
  have tk1 : True := trivial
  go_wp2_with (guard_target =~ wpList _ _ _ (_ :: _) _ _; (first | (guard_target =~ wpList _ _ _ (Oper.mk _ (.load _ _) _ _ _ _ :: _) _ _; refine BigFrame.wpList_want rfl (fun K hK => ?_); (refine o_loadC (v := ?_) (row := ?_) rfl rfl H ?_ ?_ ?_ (hK _ _ ?_); rotate_left 2; (repeat first | exact .head _ | apply List.Mem.tail); (exact rfl); (focus (intro _; simp; done))); clear hK K) | (guard_target =~ wpList _ _ _ (Oper.mk _ (.store _ _ _) _ _ _ _ :: _) _ _; refine BigFrame.wpList_want rfl (fun K hK => ?_); refine o_store (l' := ?_) (row := ?_) rfl rfl H rfl ?_ ?_ ?_ ?_ (fun w3 H2 => hK _ _ ?_); rotate_left 2; (exact r0); (focus (intro _; simp [Act.eval, Value.cells]; done)); (focus (simp [Act.eval, Value.cells]; done)); (exact rfl); clear hK K; clear H; (try clear w2); revert w3; intro w2 H; simp [Act.eval, Value.cells, setL, List.getD] at H) | ((first | (guard_target =~ wpList _ _ _ (Oper.mk _ (.alloc _) _ _ _ _ :: _) _ _; refine BigFrame.wpList_want rfl (fun K hK => ?_); refine o_alloc (z := ?_) rfl ?_ H rfl (fun w3 b2 he H2 => hK _ _ ?_); rotate_left 1; (focus (intro _; simp; with_reducible exact rfl))) | (guard_target =~ wpList _ _ _ (Oper.mk _ (.box _ _) _ _ _ _ :: _) _ _; refine BigFrame.wpList_want rfl (fun K hK => ?_); refine o_box rfl H rfl (fun w3 b2 he H2 => hK _ _ ?_))); clear hK K he; clear H; (try clear w2); revert w3; intro w2 H; simp [Act.eval, Value.cells, setL, List.getD] at H; (first | (clear tk0; rename Nat => b1) | (clear tk1; rename Nat => b2)))); simp only [Act.put, List.setIfInBounds_toArray, List.set_cons_succ, List.set_cons_zero])
  have hr := H.loadVarN (P := Try.prog) (ty := 39) m0 (by simp) (by simp)
  exact bodyPost_ret (v := pV y x) (by simp [results, Try.results41, asAddr, hr]) rfl ⟨rfl, H.below⟩
set_option maxRecDepth 100000 in
set_option maxHeartbeats 4000000 in
theorem move_any (x y u v : Int) (h1 : IntKind.i64.wrap (x + u) = x + u) (h2 : IntKind.i64.wrap (y + v) = y + v) (w : World) :
    Calls Try.prog 43 #[pV x y, pV u v] w fun e w' => e = .returned (pV (x + u) (y + v)) ∧ Below w.heap.size w w' := by
  have H := Own.start w
  go_enter Try.func43, Try.ntmps43
  have tk0 : True := trivial
  have tk1 : True := trivial
  have tk2 : True := trivial
  go_wp2_with (guard_target =~ wpList _ _ _ (_ :: _) _ _; (first | (guard_target =~ wpList _ _ _ (Oper.mk _ (.load _ _) _ _ _ _ :: _) _ _; refine BigFrame.wpList_want rfl (fun K hK => ?_); (refine o_loadC (v := ?_) (row := ?_) rfl rfl H ?_ ?_ ?_ (hK _ _ ?_); rotate_left 2; (repeat first | exact .head _ | apply List.Mem.tail); (exact rfl); (focus (intro _; simp; done))); clear hK K) | (guard_target =~ wpList _ _ _ (Oper.mk _ (.store _ _ _) _ _ _ _ :: _) _ _; refine BigFrame.wpList_want rfl (fun K hK => ?_); refine o_store (l' := ?_) (row := ?_) rfl rfl H rfl ?_ ?_ ?_ ?_ (fun w3 H2 => hK _ _ ?_); rotate_left 2; (exact r0); (focus (intro _; simp [Act.eval, Value.cells]; done)); (focus (simp [Act.eval, Value.cells]; done)); (exact rfl); clear hK K; clear H; (try clear w2); revert w3; intro w2 H; simp [Act.eval, Value.cells, setL, List.getD] at H) | ((first | (guard_target =~ wpList _ _ _ (Oper.mk _ (.alloc _) _ _ _ _ :: _) _ _; refine BigFrame.wpList_want rfl (fun K hK => ?_); refine o_alloc (z := ?_) rfl ?_ H rfl (fun w3 b2 he H2 => hK _ _ ?_); rotate_left 1; (focus (intro _; simp; with_reducible exact rfl))) | (guard_target =~ wpList _ _ _ (Oper.mk _ (.box _ _) _ _ _ _ :: _) _ _; refine BigFrame.wpList_want rfl (fun K hK => ?_); refine o_box rfl H rfl (fun w3 b2 he H2 => hK _ _ ?_))); clear hK K he; clear H; (try clear w2); revert w3; intro w2 H; simp [Act.eval, Value.cells, setL, List.getD] at H; (first | (clear tk0; rename Nat => b1) | (clear tk1; rename Nat => b2) | (clear tk2; rename Nat => b3)))); simp only [Act.put, List.setIfInBounds_toArray, List.set_cons_succ, List.set_cons_zero])
  have hr := H.loadVarN (P := Try.prog) (ty := 39) m0 (by simp) (by simp)
  exact bodyPost_ret (v := pV (x + u) (y + v)) (by simp [results, Try.results43, asAddr, hr]) rfl ⟨rfl, H.below⟩
theorem aw5_at (w : World) : Calls Try.prog 22 #[pV 0 0, pV 4 2, rV 1 1] w fun e w' => e = .returned (.tuple #[rV 1 2, .int .i64 0]) ∧ Below w.heap.size w w' := by
  have h := at_st_in 0 0 4 2 1 (by decide) (by decide) (by decide) (by decide) (by decide) w
  rw [show atN ⟨0, 0⟩ ⟨4, 2⟩ 1 = 1 by decide, show atD ⟨0, 0⟩ ⟨4, 2⟩ 1 = 2 by decide] at h
  exact h
theorem aw5_eq (x : Int) (hx : R256 x) (w : World) : (binOp .eql 24 (iV x) (iV x)).run Try.prog w = .ok (.bool true) w := by
  rw [eq_iV x x hx hx]; simp
set_option maxRecDepth 100000 in
set_option maxHeartbeats 8000000 in
theorem awake5_any (w : World) : Calls Try.prog 21 #[] w fun e w' => e = .returned (.bool true) ∧ Below w.heap.size w w' := by
  have H := Own.start w
  have g1 := guard_iVV
  have e1 := fun w => aw5_eq 1 r256_1 w
  have e2 := fun w => aw5_eq 2 (by unfold R256; omega) w
  have hof1 := fun w => of_w 1 w (by omega) (by omega)
  have hof2 := fun w => of_w 2 w (by omega) (by omega)
  have hwh := fun w => Whole_any 1 (by omega) (by omega) w
  have ht := geomTurn_any 0 0 4 0 1 3
  rw [show turnB ⟨0, 0⟩ ⟨4, 0⟩ ⟨1, 3⟩ = 1 by decide] at ht
  have ho := on_any 2 1 0 0 4 2
  rw [show onB ⟨2, 1⟩ ⟨0, 0⟩ ⟨4, 2⟩ = true by decide] at ho
  go_enter Try.func21, Try.ntmps21
  have tk0 : True := trivial
  go_wp2_with (first
    | (guard_target =~ Code.wp _ (Code.region 2 _ true) _ _ _; refine region_treeC0 2 (G := True) (.q 0 (.q 1 (.q 2 (.q 3 (.q 4 (.q 5 (.q 6 (.q 7 (.q 8 (.q 9 (.q 10 (.q 11 (.q 12 (.q 13 (.q 14 (.q 15 (.q 16 (.q 17 (.q 18 (.q 19 (.q 20 (.q 21 (.q 22 (.q 23 (.q 24 (.q 25 (.q 26 (.q 27 .nil)))))))))))))))))))))))))))) (by kernel_rfl) (by intro c a d v w h; cases d <;> exact h) (by kernel_rfl) H ⟨trivial⟩ (fun _ w3 H2 => ?_); (clear H; (try clear w2); revert w3; intro w2 H))
    | (go_at_call 23; (with_reducible refine (hwh _).mono ?_); rintro e w3 ⟨rfl, hb⟩; replace H := H.ext hb; clear hb; dsimp only; (skip))
    | (go_at_call 22; (with_reducible refine (aw5_at _).mono ?_); rintro e w3 ⟨rfl, hb⟩; replace H := H.ext hb; clear hb; dsimp only; (skip))
    | (guard_target =~ wpList _ _ _ (_ :: _) _ _; (first | (guard_target =~ wpList _ _ _ (Oper.mk _ (.store _ _ _) _ _ _ _ :: _) _ _; refine BigFrame.wpList_want rfl (fun K hK => ?_); refine o_store (l' := ?_) (row := ?_) rfl rfl H rfl ?_ ?_ ?_ ?_ (fun w3 H2 => hK _ _ ?_); rotate_left 2; (exact r0); (focus (intro _; (simp [Act.eval, List.getD, cells_iV, iL_length, setL_i, setL_ii, agg_iL, cells_rV, rL_length, setL_r, setL_rr, agg_rL]; done))); (focus (simp [Act.eval, List.getD, cells_iV, iL_length, setL_i, setL_ii, agg_iL, cells_rV, rL_length, setL_r, setL_rr, agg_rL]; done)); (exact rfl); clear hK K; clear H; (try clear w2); revert w3; intro w2 H; (try simp [Act.eval, List.getD, cells_iV, iL_length, setL_i, setL_ii, agg_iL, cells_rV, rL_length, setL_r, setL_rr, agg_rL] at H); (try simp [Value.cells, setL, cells_iV, iL_length, setL_i, setL_ii, agg_iL, cells_rV, rL_length, setL_r, setL_rr, agg_rL] at H)) | ((guard_target =~ wpList _ _ _ (Oper.mk _ (.alloc _) _ _ _ _ :: _) _ _; refine BigFrame.wpList_want rfl (fun K hK => ?_); refine o_alloc (z := ?_) rfl ?_ H rfl (fun w3 b2 he H2 => hK _ _ ?_); rotate_left 1; (focus (intro _; simp; with_reducible exact rfl))); clear hK K he; clear H; (try clear w2); revert w3; intro w2 H; (try simp [Act.eval, List.getD, cells_iV, iL_length, setL_i, setL_ii, agg_iL, cells_rV, rL_length, setL_r, setL_rr, agg_rL] at H); (try simp [Value.cells, setL, cells_iV, iL_length, setL_i, setL_ii, agg_iL, cells_rV, rL_length, setL_r, setL_rr, agg_rL] at H); (clear tk0; rename Nat => c1))); simp only [Act.put, List.setIfInBounds_toArray, List.set_cons_succ, List.set_cons_zero, cells_iV, iL_length, setL_i, setL_ii, agg_iL, cells_rV, rL_length, setL_r, setL_rr, agg_rL])
    | (guard_target =~ wpTreeC _ _ _ _ _ _ _; first | (guard_target =~ wpTreeC _ _ _ (Tr.e _ Tr.nil) _ _ _; refine treeC_last (by kernel_rfl) H rfl rfl (fun w3 H2 K hK => ?_); clear H; (try clear w2); (revert w3; intro w2 H); simp only [List.getElem_toArray, List.getElem_cons_succ, List.getElem_cons_zero]; (first | fail); simp only [Act.put, List.setIfInBounds_toArray, List.set_cons_succ, List.set_cons_zero, cells_iV, iL_length, setL_i, setL_ii, agg_iL, cells_rV, rL_length, setL_r, setL_rr, agg_rL]) | (guard_target =~ wpTreeC _ _ _ (Tr.q _ _) _ _ _; first | (refine treeC_quiet ⟨_, H, by repeat first | exact .here | apply Suf.there⟩ rfl rfl rfl (fun K hK => ?_); simp only [List.getElem_toArray, List.getElem_cons_succ, List.getElem_cons_zero]; first | (guard_target =~ Oper.quiet _ (Oper.mk _ (.load _ _) _ _ _ _) _ _ _; (first | (refine q_loadNum (n := ?_) (d := ?_) rfl rfl ?_ ?_ ?_ (hK _ ?_); rotate_left 2; (repeat first | exact .head _ | apply List.Mem.tail); (focus (intro _; simp [cells_iV, iL_length, setL_i, setL_ii, agg_iL, cells_rV, rL_length, setL_r, setL_rr, agg_rL]; done)); (focus (intro _; simp [cells_iV, iL_length, setL_i, setL_ii, agg_iL, cells_rV, rL_length, setL_r, setL_rr, agg_rL]; done))) | (refine q_loadDen (n := ?_) (d := ?_) rfl rfl ?_ ?_ ?_ (hK _ ?_); rotate_left 2; (repeat first | exact .head _ | apply List.Mem.tail); (focus (intro _; simp [cells_iV, iL_length, setL_i, setL_ii, agg_iL, cells_rV, rL_length, setL_r, setL_rr, agg_rL]; done)); (focus (intro _; simp [cells_iV, iL_length, setL_i, setL_ii, agg_iL, cells_rV, rL_length, setL_r, setL_rr, agg_rL]; done)))); clear hK K; simp only [Act.put, List.setIfInBounds_toArray, List.set_cons_succ, List.set_cons_zero, cells_iV, iL_length, setL_i, setL_ii, agg_iL, cells_rV, rL_length, setL_r, setL_rr, agg_rL]) | (go_big_quiet_op; (try refine ⟨_, fun _ _ => rfl, ?_⟩); refine hK _ ?_; clear hK K)) | (refine treeC_call (v := ?_) ⟨_, H, by repeat first | exact .here | apply Suf.there⟩ rfl rfl (fun w3 H K hK => ?_) ?_; rotate_left 1; (focus (simp only [List.getElem_toArray, List.getElem_cons_succ, List.getElem_cons_zero]; go_big_op; first | (go_at_call 58; (with_reducible refine (hof1 _).mono ?_); rintro e w3 ⟨rfl, hb⟩; dsimp only; first | exact hK _ hb | exact hK _ (Ext.refl _)) | (go_at_call 58; (with_reducible refine (hof2 _).mono ?_); rintro e w3 ⟨rfl, hb⟩; dsimp only; first | exact hK _ hb | exact hK _ (Ext.refl _)) | (go_at_call 23; (with_reducible refine (hwh _).mono ?_); rintro e w3 ⟨rfl, hb⟩; dsimp only; first | exact hK _ hb | exact hK _ (Ext.refl _)) | (go_at_call 22; (with_reducible refine (aw5_at _).mono ?_); rintro e w3 ⟨rfl, hb⟩; dsimp only; first | exact hK _ hb | exact hK _ (Ext.refl _)) | (go_at_call 30; (with_reducible refine (ht _).mono ?_); rintro e w3 ⟨rfl, hb⟩; dsimp only; first | exact hK _ hb | exact hK _ (Ext.refl _)) | (go_at_call 24; (with_reducible refine (ho _).mono ?_); rintro e w3 ⟨rfl, hb⟩; dsimp only; first | exact hK _ hb | exact hK _ (Ext.refl _)))); simp only [List.getElem_toArray, List.getElem_cons_succ, List.getElem_cons_zero, Act.put, List.setIfInBounds_toArray, List.set_cons_succ, List.set_cons_zero]) | (refine treeC_skip ⟨_, H, by repeat first | exact .here | apply Suf.there⟩ rfl rfl ?_; simp only [List.getElem_toArray, List.getElem_cons_succ, List.getElem_cons_zero, Act.put, List.setIfInBounds_toArray, List.set_cons_succ, List.set_cons_zero])) | (guard_target =~ wpTreeC _ _ _ (Tr.both _ _) _ _ _; refine treeC_both ?_ ?_) | (guard_target =~ wpTreeC _ _ _ (Tr.e _ _) _ _ _; first | (refine treeC_one H rfl rfl (fun w3 H2 K hK => ?_); clear H; (try clear w2); (revert w3; intro w2 H); simp only [List.getElem_toArray, List.getElem_cons_succ, List.getElem_cons_zero]; first | ((first | fail); simp only [Act.put, List.setIfInBounds_toArray, List.set_cons_succ, List.set_cons_zero, cells_iV, iL_length, setL_i, setL_ii, agg_iL, cells_rV, rL_length, setL_r, setL_rr, agg_rL]) | (go_big_op; (first | fail))) | (refine treeC_one_skip (fun w3 hx => ⟨_, H.ext hx, by repeat first | exact .here | apply Suf.there⟩) rfl rfl (fun w3 hx => ?_); replace H := H.ext hx; clear hx; (try clear w2); revert w3; intro w2 H; simp only [List.getElem_toArray, List.getElem_cons_succ, List.getElem_cons_zero, Act.put, List.setIfInBounds_toArray, List.set_cons_succ, List.set_cons_zero])) | (guard_target =~ wpTreeC _ _ _ Tr.nil _ _ _; refine treeC_nil H (fun w3 H2 => ?_); clear H; (try clear w2); revert w3; intro w2 H)))
  go_ret
  exact ⟨rfl, H.below⟩
end Go.Proofs.Ytmmieilogpmocaa
