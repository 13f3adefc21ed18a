/-
  The walk of SpinNext.
-/
import Derived.Test.YtlhmjhildlnokaaMc56f6dca
import Derived.Test.YtlhmjhildlnokaaSpinT
import Derived.Test.YtlhmjhildlnokaaSpinS
import Derived.Test.YtlhmjhildlnokaaBase
import Derived.Test.YtlhmjhildlnokaaChecked
import Derived.ChangeArms
import Derived.Test.YtlhmjhildlnokaaSigns
namespace Go.Proofs.Ytlhmjhildlnokaa
set_option linter.unusedVariables false
set_option linter.unusedSimpArgs false
open Go.RowKit

theorem eqVt16_in (i x y j u v : Int) (w : World) : (Op.equalIn 10000 49 (v3 i x y) (v3 j u v)).run Try.prog w = .ok (decide (i = j) && (decide (x = u) && decide (y = v))) w := by
  have hs : ∀ w, (sizeOf 47).run Try.prog w = .ok 2 w := fun w => by kernel_rfl
  have ha : ∀ w, (isAgg 47).run Try.prog w = .ok true w := fun w => by kernel_rfl
  have h := eqS_in (P := Try.prog) (d := 9999) (T := 49) (xs := #[.int .i64 i, .int .i64 x, .int .i64 y]) (ys := #[.int .i64 j, .int .i64 u, .int .i64 v])
    [⟨3, 0, .int .i64 i, .int .i64 j, decide (i = j)⟩, ⟨47, 1, pV x y, pV u v, decide (x = u) && decide (y = v)⟩] (by kernel_rfl) (by kernel_rfl) (by kernel_rfl) (fun f hf => by
      simp only [List.mem_cons, List.not_mem_nil, or_false] at hf
      rcases hf with rfl | rfl
      · exact ⟨part_cell int_agg rfl, part_cell int_agg rfl, eq_int_in 9998 i j⟩
      · exact ⟨part_row ha hs rfl, part_row ha hs rfl, eqP_in 9997 x y u v⟩) w
  simpa using h
theorem eqVt_eql (i x y : Int) (w : World) : (binOp .eql 49 (.agg #[.int .i64 i, .int .i64 x, .int .i64 y]) (.agg #[.int .i64 i, .int .i64 x, .int .i64 y])).run Try.prog w = .ok (.bool true) w := by
  have := eqS_eql (P := Try.prog) (eqVt16_in i x y i x y) w
  simpa using this
theorem eqVt_neq (i x y : Int) (w : World) : (binOp .neq 49 (.agg #[.int .i64 i, .int .i64 x, .int .i64 y]) (.agg #[.int .i64 i, .int .i64 x, .int .i64 y])).run Try.prog w = .ok (.bool false) w := by
  have := eqS_neq (P := Try.prog) (eqVt16_in i x y i x y) w
  simpa using this
theorem eqVt_guard (op : BinOp) (x y : Operand) (i j k l m n : Int) (w : World) : (eqGuard op 49 x y (.agg #[.int .i64 i, .int .i64 j, .int .i64 k]) (.agg #[.int .i64 l, .int .i64 m, .int .i64 n])).run Try.prog w = .ok () w := by
  have h : Try.prog.eqGuardType Try.prog.depth 49 = false := by kernel_rfl
  cases op <;> simp [eqGuard, h]
/-- From where, and to where. -/
theorem ends_of {vs : List Vt} {es : List Eg} (H : RightP vs es) {h : Hf} (hh : h ∈ halves es) (hr : rightB vs es = true) :
    ∃ ax ay bx b_y, endsZ vs es h = (⟨fromZ es h, ⟨ax, ay⟩⟩, ⟨toZ es h, ⟨bx, b_y⟩⟩, true) ∧ rpt vs (fromZ es h) = ⟨ax, ay⟩ ∧ rpt vs (toZ es h) = ⟨bx, b_y⟩ := by
  have he := half_ends H hh
  have key : ∀ id, (vs.find? fun v => v.id == id).isSome = true → ∃ x y, (vs.find? fun v => v.id == id) = some ⟨id, ⟨x, y⟩⟩ := fun id hi => by
    cases hf : (vs.find? fun v => v.id == id) with
    | none => rw [hf] at hi; cases hi
    | some v =>
      have := List.find?_some hf
      obtain ⟨i, ⟨x, y⟩⟩ := v
      obtain rfl : i = id := by simpa using this
      exact ⟨x, y, rfl⟩
  obtain ⟨ax, ay, ha⟩ := key _ he.1
  obtain ⟨bx, b_y, hb⟩ := key _ he.2.1
  refine ⟨ax, ay, bx, b_y, ?_, by unfold rpt; rw [ha]; rfl, by unfold rpt; rw [hb]; rfl⟩
  obtain ⟨e, hm, h1⟩ := mem_halves.1 hh
  have hf := find_mid H.ids hm
  have hg := egOf_mem H hm
  unfold endsZ
  rw [if_pos hr, h1, hf]
  have e1 : fromZ es h = if h.b then e.b else e.a := by unfold fromZ; rw [h1, hg]
  have e2 : toZ es h = if h.b then e.a else e.b := by unfold toZ fromZ twinH; simp only [h1, hg]; cases h.b <;> rfl
  rw [e1] at ha ⊢
  rw [e2] at hb ⊢
  cases hb2 : h.b
  · simp only [hb2, Bool.false_eq_true, if_false] at ha hb ⊢
    rw [ha, hb]; rfl
  · simp only [hb2, if_true] at ha hb ⊢
    rw [ha, hb]; rfl
theorem no_half {es : List Eg} {e : Int} {b : Bool} (h : (es.findIdx? fun v => v.id == e) = none) : (⟨e, b⟩ : Hf) ∉ halves es ∧ (es.find? fun v => v.id == e) = none := by
  rw [List.findIdx?_eq_none_iff] at h
  refine ⟨fun hm => ?_, ?_⟩
  · obtain ⟨f, hf, he⟩ := mem_halves.1 hm
    have := h f hf
    simp at this
    exact this he.symm
  · rw [List.find?_eq_none]
    intro x hx
    have := h x hx
    simpa using this
theorem a_half {es : List Eg} {e : Int} {b : Bool} {j : Nat} (h : (es.findIdx? fun v => v.id == e) = some j) : (⟨e, b⟩ : Hf) ∈ halves es := by
  obtain ⟨h1, h2, _⟩ := List.findIdx?_eq_some_iff_getElem.1 h
  exact mem_halves.2 ⟨es[j], List.getElem_mem h1, by simpa using Eq.symm (by simpa using h2 : es[j].id = e)⟩
set_option maxRecDepth 200000 in
set_option maxHeartbeats 16000000 in
theorem law_SpinNext (A A2 : Option Addr) (c c2 : Nat) (vs : List Vt) (es : List Eg) (e0 : Int) (b0' : Bool) (w : World) (hp : PlArg w A A2 c c2 vs es) :
    Calls Try.prog 7 #[.agg #[.slice A vs.length c, .slice A2 es.length c2], .agg #[.int .i64 e0, .bool b0']] w fun e w' => e = .returned (.bool true) ∧ Below w.heap.size w w' := by
  obtain ⟨hs, hs2, hcv, hce, _, _⟩ := hp
  obtain ⟨F0, hF0⟩ : ∃ F0 : Nat → Prop, F0 = fun _ => False := ⟨_, rfl⟩
  have hFF : ∀ k, F0 k → k < w.heap.size := fun k h => by rw [hF0] at h; exact h.elim
  rw [← hF0] at hs hs2
  clear hF0
  obtain ⟨b0, o0, H1, f0⟩ := (Own.start w).addSl (hs.ro (by rfl))
  obtain ⟨b9, o9, H, f9⟩ := H1.addSl (hs2.ro (by rfl))
  clear hs hs2 H1
  have hfw := few16_any A A2 vs.length es.length c c2
  obtain ⟨v0, hv0⟩ : ∃ v, (decide (vs.length ≤ 40) && decide (es.length ≤ 40)) = v := ⟨_, rfl⟩
  rw [hv0] at hfw
  cases v0
  · clear hv0
    go_enter Try.func7, Try.ntmps7
    have tk0 : True := trivial
    have tk1 : True := trivial
    go_wp2_with (first
      | (go_at_call 12; (with_reducible refine (hfw _).mono ?_); rintro e w3 ⟨rfl, hb⟩; replace H := H.ext hb; clear hb; dsimp only; (skip))
      | (go_at_call 13; (with_reducible refine (awake16_any _).mono ?_); rintro e w3 ⟨rfl, hb⟩; replace H := H.ext hb; clear hb; dsimp only; (skip))
      | (guard_target =~ wpList _ _ _ (_ :: _) _ _; (first | (guard_target =~ wpList _ _ _ (Oper.mk _ (.load _ _) _ _ _ _ :: _) _ _; refine BigFrame.wpList_want rfl (fun K hK => ?_); (refine o_loadNC (row := ?_) rfl rfl H ?_ ?_ ?_ (hK _ _ ?_); rotate_left 1; (repeat first | exact .head _ | apply List.Mem.tail); (focus (intro _; simp; done)); (focus (intro _; simp; done))); clear hK K) | ((guard_target =~ wpList _ _ _ (Oper.mk _ (.box _ _) _ _ _ _ :: _) _ _; refine BigFrame.wpList_want rfl (fun K hK => ?_); refine o_box rfl H rfl (fun w3 b2 he H2 => hK _ _ ?_)); clear hK K he; clear H; (try clear w2); revert w3; intro w2 H; simp [Act.eval, Value.cells, setL, List.getD] at H; (first | (clear tk0; rename Nat => b1) | (clear tk1; rename Nat => b2)))); simp only [Act.put, List.setIfInBounds_toArray, List.set_cons_succ, List.set_cons_zero]))
    go_ret
    exact ⟨rfl, H.below⟩
  · have hl : vs.length ≤ 1000000 := by simp at hv0; omega
    have hl2 : es.length ≤ 1000000 := by simp at hv0; omega
    clear hv0
    have hc2 := hce.1
    have hcc := hce.2
    have h1 := fun F w h1 h2 => snext_any vs es A A2 vs.length es.length c c2 F e0 b0' w rfl rfl h1 h2 hl hl2 hc2 hcc
    have h2 := fun F w h1 h2 => sends_any vs es A A2 vs.length es.length c c2 F e0 b0' w rfl rfl h1 h2 hl hl2 hc2 hcc
    have h3 := fun F w h1 h2 => refRight_any vs es A A2 vs.length es.length c c2 F w rfl rfl h1 h2 hl hl2 hc2 hcc
    have h4 := fun F w h1 => refEdge_any es A2 A es.length vs.length c2 c F e0 w rfl h1 hl2
    rw [← right_same] at h3
    have hg1 := eqH_guard
    have hg2 := eqVt_guard
    have hq1 := eqVt_eql
    by_cases hok : rightB vs es = true ∧ (es.findIdx? fun v => v.id == e0).isSome = true
    · obtain ⟨hr, hi⟩ := hok
      obtain ⟨j, hj⟩ := Option.isSome_iff_exists.1 hi
      have hh := a_half (b := b0') hj
      have hR := rightB_P hr
      obtain ⟨ax, ay, bx, b_y, hE, hpa, hpb⟩ := ends_of hR hh hr
      rw [hE] at h2
      rw [hr, nxM_yes hh] at h1
      rw [hr] at h3
      rw [hj] at h4
      have h5 := fun F w h1 h2 hF => rnext_any vs es A A2 vs.length es.length c c2 F e0 b0' w hR rfl rfl h1 h2 hF hh
      have h6 := fun F w h1 => fromR_any hR A A2 vs.length es.length c c2 F e0 b0' (fromZ es ⟨e0, b0'⟩) w rfl h1 hh rfl
      have h7 := fun F w h1 => fromR_any hR A A2 vs.length es.length c c2 F e0 (!b0') (toZ es ⟨e0, b0'⟩) w rfl h1 (twin_mem hh) rfl
      have he := half_ends hR hh
      have h8 := fun F w h1 => atR_any hR A A2 vs.length es.length c c2 F (fromZ es ⟨e0, b0'⟩) ax ay w rfl h1 he.1 hpa
      have h9 := fun F w h1 => atR_any hR A A2 vs.length es.length c c2 F (toZ es ⟨e0, b0'⟩) bx b_y w rfl h1 he.2.1 hpb
      simp only [if_true, Option.getD_some, Option.isSome_some, Bool.and_true, ixZ] at h1 h4
      simp only at h2
      generalize hnh : nextZ vs es ⟨e0, b0'⟩ = nh at h1 h5
      obtain ⟨ne, nb⟩ := nh
      generalize fromZ es ⟨e0, b0'⟩ = fz at h2 h6 h8
      generalize toZ es ⟨e0, b0'⟩ = tz at h2 h7 h9
      clear hr hi hj hh hR hE hpa hpb he hnh
      have hq2 : ∀ w, (binOp .eql 36 (.agg #[.int .i64 ne, .bool nb]) (.agg #[.int .i64 ne, .bool nb])).run Try.prog w = .ok (.bool true) w := fun w => by rw [eqH_eql]; simp
      have hq3 : ∀ w, (binOp .eql 47 (pV ax ay) (pV ax ay)).run Try.prog w = .ok (.bool true) w := fun w => by rw [eq_pt]; simp
      have hq4 : ∀ w, (binOp .eql 47 (pV bx b_y) (pV bx b_y)).run Try.prog w = .ok (.bool true) w := fun w => by rw [eq_pt]; simp
      have hjz : decide ((j : Int) < 0) = false := by simp
      go_enter Try.func7, Try.ntmps7
      have tk0 : True := trivial
      have tk1 : True := trivial
      go_wp2_with (first
        | (guard_target =~ Code.wp _ (Code.region 3 _ true) _ _ _; refine region_treeC0 3 (G := True) (.q 0 (.q 1 (.q 2 (.q 3 (.q 4 (.q 5 (.q 6 (.e 7 (.e 8 (.q 9 .nil)))))))))) (by kernel_rfl) (by intro c a d v w h; cases d <;> exact h) (by kernel_rfl) H ⟨trivial⟩ (fun _ w3 H2 => ?_); (clear H; (try clear w2); revert w3; intro w2 H))
        | (guard_target =~ Code.wp _ (Code.region 4 _ true) _ _ _; refine region_treeC0 4 (G := ?_) (.q 0 (.q 1 (.q 2 (.q 3 (.q 4 (.q 5 (.q 6 (.q 7 (.both (.e 8 (.e 9 (.e 10 (.e 11 (.q 12 .nil))))) (.e 9 (.e 8 (.e 10 (.e 11 (.q 12 .nil)))))))))))))) (by kernel_rfl) (by intro c a d v w h; cases d <;> exact h) (by kernel_rfl) H ?_ (fun key4 w3 H2 => ?_); rotate_left 2; (revert w3; intro w2 H))
        | (guard_target =~ Key 4 _; refine ⟨?_⟩; intro nb8 nb9 w2 H)
        | (guard_target =~ Code.wp _ (Code.region 7 _ true) _ _ _; refine region_treeC0 7 (G := True) (.q 0 (.q 1 (.q 2 (.q 3 (.q 4 (.q 5 (.q 6 (.q 7 (.q 8 (.q 9 (.q 10 (.q 11 (.q 12 (.q 13 (.q 14 (.q 15 (.q 16 (.q 17 (.q 18 (.q 19 (.q 20 (.q 21 (.q 22 (.q 23 (.q 24 (.q 25 (.q 26 (.q 27 (.q 28 (.q 29 (.q 30 (.q 31 (.q 32 (.q 33 (.q 34 (.q 35 (.q 36 (.q 37 (.q 38 (.q 39 (.q 40 (.q 41 (.q 42 (.q 43 (.q 44 (.q 45 (.q 46 (.q 47 (.q 48 (.q 49 .nil)))))))))))))))))))))))))))))))))))))))))))))))))) (by kernel_rfl) (by intro c a d v w h; cases d <;> exact h) (by kernel_rfl) H ⟨trivial⟩ (fun _ w3 H2 => ?_); (clear H; (try clear w2); revert w3; intro w2 H))
        | (go_at_call 12; (with_reducible refine (hfw _).mono ?_); rintro e w3 ⟨rfl, hb⟩; replace H := H.ext hb; clear hb; dsimp only; (skip))
        | (go_at_call 16; (with_reducible refine (h3 _ _ (by exact H.giveRd m6 f0) (by exact H.giveRd m5 f9)).mono ?_); rintro e w3 ⟨rfl, hb⟩; replace H := H.ext hb; clear hb; dsimp only; (skip))
        | (go_at_call 30; (with_reducible refine (h4 _ _ (by exact H.giveRd m5 f9)).mono ?_); rintro e w3 ⟨rfl, hb⟩; replace H := H.ext hb; clear hb; dsimp only; (skip))
        | (guard_target =~ wpList _ _ _ (_ :: _) _ _; (first | (guard_target =~ wpList _ _ _ (Oper.mk _ (.load _ _) _ _ _ _ :: _) _ _; refine BigFrame.wpList_want rfl (fun K hK => ?_); (first | (refine o_loadC (v := ?_) (row := ?_) rfl rfl H ?_ ?_ ?_ (hK _ _ ?_); rotate_left 2; (repeat first | exact .head _ | apply List.Mem.tail); (exact rfl); (focus (intro _; simp [hV]; done))) | (refine o_loadNC (row := ?_) rfl rfl H ?_ ?_ ?_ (hK _ _ ?_); rotate_left 1; (repeat first | exact .head _ | apply List.Mem.tail); (focus (intro _; simp [hV]; done)); (focus (intro _; simp [hV]; done)))); clear hK K) | ((guard_target =~ wpList _ _ _ (Oper.mk _ (.box _ _) _ _ _ _ :: _) _ _; refine BigFrame.wpList_want rfl (fun K hK => ?_); refine o_box rfl H rfl (fun w3 b2 he H2 => hK _ _ ?_)); clear hK K he; clear H; (try clear w2); revert w3; intro w2 H; (try simp [Act.eval, List.getD, hV] at H); (try simp [Value.cells, setL, hV] at H); (first | (clear tk0; rename Nat => b1) | (clear tk1; rename Nat => b2)))); simp only [Act.put, List.setIfInBounds_toArray, List.set_cons_succ, List.set_cons_zero, hV])
        | (guard_target =~ wpTreeC _ _ _ _ _ _ _; first | (guard_target =~ wpTreeC _ _ _ (Tr.e _ Tr.nil) _ _ _; refine treeC_last (by decide +kernel) H rfl rfl (fun w3 H2 K hK => ?_); clear H; (try clear w2); (revert w3; intro w2 H); simp only [List.getElem_toArray, List.getElem_cons_succ, List.getElem_cons_zero]; (first | fail); simp only [Act.put, List.setIfInBounds_toArray, List.set_cons_succ, List.set_cons_zero, hV]) | (guard_target =~ wpTreeC _ _ _ (Tr.q _ _) _ _ _; first | (refine treeC_quiet ⟨_, H, by repeat first | exact .here | apply Suf.there⟩ rfl rfl rfl (fun K hK => ?_); simp only [List.getElem_toArray, List.getElem_cons_succ, List.getElem_cons_zero]; first | (guard_target =~ Oper.quiet _ (Oper.mk _ (.load _ _) _ _ _ _) _ _ _; (first | (refine q_loadPt (n := ?_) (d := ?_) rfl rfl ?_ ?_ ?_ (hK _ ?_); rotate_left 2; (repeat first | exact .head _ | apply List.Mem.tail); (focus (intro _; simp [hV]; done)); (focus (intro _; simp [hV]; done))) | (refine q_loadC (v := ?_) (row := ?_) rfl rfl ?_ ?_ ?_ (hK _ ?_); rotate_left 2; (repeat first | exact .head _ | apply List.Mem.tail); (exact rfl); (focus (intro _; simp [hV]; done))) | (refine q_loadNC (row := ?_) rfl rfl ?_ ?_ ?_ (hK _ ?_); rotate_left 1; (repeat first | exact .head _ | apply List.Mem.tail); (focus (intro _; simp [hV]; done)); (focus (intro _; simp [hV]; done)))); clear hK K; simp only [Act.put, List.setIfInBounds_toArray, List.set_cons_succ, List.set_cons_zero, hV]) | (go_big_quiet_op; (try refine ⟨_, fun _ _ => rfl, ?_⟩); refine hK _ ?_; clear hK K)) | (refine treeC_call (v := ?_) ⟨_, H, by repeat first | exact .here | apply Suf.there⟩ rfl rfl (fun w3 H K hK => ?_) ?_; rotate_left 1; (focus (simp only [List.getElem_toArray, List.getElem_cons_succ, List.getElem_cons_zero]; first | (go_big_op; first | exact hK _ (Ext.refl _) | (go_at_call 12; (with_reducible refine (hfw _).mono ?_); rintro e w3 ⟨rfl, hb⟩; dsimp only; first | exact hK _ hb | exact hK _ (Ext.refl _)) | (go_at_call 13; (with_reducible refine (awake16_any _).mono ?_); rintro e w3 ⟨rfl, hb⟩; dsimp only; first | exact hK _ hb | exact hK _ (Ext.refl _)) | (go_at_call 15; (with_reducible refine (plain16_any _ _ _ _ _ _ _).mono ?_); rintro e w3 ⟨rfl, hb⟩; dsimp only; first | exact hK _ hb | exact hK _ (Ext.refl _)) | (go_at_call 28; (with_reducible refine (h1 _ _ (by exact H.giveRd m3 f0) (by exact H.giveRd m2 f9)).mono ?_); rintro e w3 ⟨rfl, hb⟩; dsimp only; first | exact hK _ hb | exact hK _ (Ext.refl _)) | (go_at_call 29; (with_reducible refine (h2 _ _ (by exact H.giveRd m4 f0) (by exact H.giveRd m3 f9)).mono ?_); rintro e w3 ⟨rfl, hb⟩; dsimp only; first | exact hK _ hb | exact hK _ (Ext.refl _)) | (go_at_call 16; (with_reducible refine (h3 _ _ (by first | fail) (by first | fail)).mono ?_); rintro e w3 ⟨rfl, hb⟩; dsimp only; first | exact hK _ hb | exact hK _ (Ext.refl _)) | (go_at_call 30; (with_reducible refine (h4 _ _ (by first | fail)).mono ?_); rintro e w3 ⟨rfl, hb⟩; dsimp only; first | exact hK _ hb | exact hK _ (Ext.refl _)) | (go_at_call 31; (with_reducible refine (h5 (FW F0 _) _ (by exact H.giveRd m6 f0) (by exact H.giveRd m5 f9) (H.fw_lt rfl hFF)).mono ?_); rintro e w3 ⟨rfl, hb⟩; dsimp only; first | exact hK _ hb | exact hK _ (Ext.refl _)) | (go_at_call 32; (with_reducible refine (h6 _ _ (by exact H.giveRd m5 f9)).mono ?_); rintro e w3 ⟨rfl, hb⟩; dsimp only; first | exact hK _ hb | exact hK _ (Ext.refl _)) | (go_at_call 32; (with_reducible refine (h7 _ _ (by exact H.giveRd m5 f9)).mono ?_); rintro e w3 ⟨rfl, hb⟩; dsimp only; first | exact hK _ hb | exact hK _ (Ext.refl _)) | (go_at_call 20; (with_reducible refine (rtwin_any _ _ _).mono ?_); rintro e w3 ⟨rfl, hb⟩; dsimp only; first | exact hK _ hb | exact hK _ (Ext.refl _)) | (go_at_call 33; (with_reducible refine (h8 _ _ (by exact H.giveRd m6 f0)).mono ?_); rintro e w3 ⟨rfl, hb⟩; dsimp only; first | exact hK _ hb | exact hK _ (Ext.refl _)) | (go_at_call 33; (with_reducible refine (h9 _ _ (by exact H.giveRd m6 f0)).mono ?_); rintro e w3 ⟨rfl, hb⟩; dsimp only; first | exact hK _ hb | exact hK _ (Ext.refl _))))); simp only [List.getElem_toArray, List.getElem_cons_succ, List.getElem_cons_zero, Act.put, List.setIfInBounds_toArray, List.set_cons_succ, List.set_cons_zero, hV]) | (refine treeC_skip ⟨_, H, by repeat first | exact .here | apply Suf.there⟩ rfl rfl ?_; simp only [List.getElem_toArray, List.getElem_cons_succ, List.getElem_cons_zero, Act.put, List.setIfInBounds_toArray, List.set_cons_succ, List.set_cons_zero, hV])) | (guard_target =~ wpTreeC _ _ _ (Tr.e _ _) _ _ _; (first | (guard_target =~ wpTreeC _ _ _ (Tr.e 8 _) _ _ _; refine treeC_one H rfl rfl (fun w3 H2 K hK => ?_); clear H; (try clear w2); (revert w3; intro w2 H); simp only [List.getElem_toArray, List.getElem_cons_succ, List.getElem_cons_zero]; ((guard_target =~ Oper.wp _ (Oper.mk _ (.alloc _) _ _ _ _) _ _ _ _; refine o_alloc (z := ?_) rfl ?_ H rfl (fun w3 b2 he H2 => hK _ _ ⟨_, H2, ?_⟩ ?_); rotate_left 1; (focus (intro _; simp; with_reducible exact rfl))); (guard_target =~ Suf _ _; repeat first | exact .here | apply Suf.there); clear hK K he; clear H; (try clear w2); revert w3; intro w2 H; (try simp [Act.eval, List.getD, hV] at H); (try simp [Value.cells, setL, hV] at H)); simp only [Act.put, List.setIfInBounds_toArray, List.set_cons_succ, List.set_cons_zero, hV]; rename Nat => nb8) | (guard_target =~ wpTreeC _ _ _ (Tr.e 9 _) _ _ _; refine treeC_one H rfl rfl (fun w3 H2 K hK => ?_); clear H; (try clear w2); (revert w3; intro w2 H); simp only [List.getElem_toArray, List.getElem_cons_succ, List.getElem_cons_zero]; ((guard_target =~ Oper.wp _ (Oper.mk _ (.alloc _) _ _ _ _) _ _ _ _; refine o_alloc (z := ?_) rfl ?_ H rfl (fun w3 b2 he H2 => hK _ _ ⟨_, H2, ?_⟩ ?_); rotate_left 1; (focus (intro _; simp; with_reducible exact rfl))); (guard_target =~ Suf _ _; repeat first | exact .here | apply Suf.there); clear hK K he; clear H; (try clear w2); revert w3; intro w2 H; (try simp [Act.eval, List.getD, hV] at H); (try simp [Value.cells, setL, hV] at H)); simp only [Act.put, List.setIfInBounds_toArray, List.set_cons_succ, List.set_cons_zero, hV]; rename Nat => nb9))) | (guard_target =~ wpTreeC _ _ _ (Tr.both _ _) _ _ _; refine treeC_both ?_ ?_) | (guard_target =~ wpTreeC _ _ _ (Tr.e _ _) _ _ _; first | (refine treeC_one H rfl rfl (fun w3 H2 K hK => ?_); clear H; (try clear w2); (revert w3; intro w2 H); simp only [List.getElem_toArray, List.getElem_cons_succ, List.getElem_cons_zero]; first | ((first | (guard_target =~ Oper.wp _ (Oper.mk _ (.store _ _ _) _ _ _ _) _ _ _ _; refine o_store (l' := ?_) (row := ?_) rfl rfl H rfl ?_ ?_ ?_ ?_ (fun w3 H2 => hK _ _ ⟨_, H2, ?_⟩ ?_); rotate_left 2; (first | exact r0 | exact r1); (focus (intro _; (simp [Act.eval, Value.cells, List.getD, hV]; done))); (focus (simp [Act.eval, Value.cells, List.getD, hV]; done)); (exact rfl); (guard_target =~ Suf _ _; repeat first | exact .here | apply Suf.there); clear hK K; clear H; (try clear w2); revert w3; intro w2 H; (try simp [Act.eval, List.getD, hV] at H); (try simp [Value.cells, setL, hV] at H)) | ((guard_target =~ Oper.wp _ (Oper.mk _ (.alloc _) _ _ _ _) _ _ _ _; refine o_alloc (z := ?_) rfl ?_ H rfl (fun w3 b2 he H2 => hK _ _ ⟨_, H2, ?_⟩ ?_); rotate_left 1; (focus (intro _; simp; with_reducible exact rfl))); (guard_target =~ Suf _ _; repeat first | exact .here | apply Suf.there); clear hK K he; clear H; (try clear w2); revert w3; intro w2 H; (try simp [Act.eval, List.getD, hV] at H); (try simp [Value.cells, setL, hV] at H); (skip))); simp only [Act.put, List.setIfInBounds_toArray, List.set_cons_succ, List.set_cons_zero, hV]) | (go_big_op; (first | fail))) | (refine treeC_one_skip (fun w3 hx => ⟨_, H.ext hx, by repeat first | exact .here | apply Suf.there⟩) rfl rfl (fun w3 hx => ?_); replace H := H.ext hx; clear hx; (try clear w2); revert w3; intro w2 H; simp only [List.getElem_toArray, List.getElem_cons_succ, List.getElem_cons_zero, Act.put, List.setIfInBounds_toArray, List.set_cons_succ, List.set_cons_zero, hV])) | (refine treeC_nil H (fun w3 H2 => ?_); clear H; (try clear w2); revert w3; intro w2 H; (first | replace H : Own _ _ _ (Res.cells nb9 _ :: _) := H | replace H : Own _ _ _ (Res.cells nb9 _ :: _) := H.front1); (replace H : Own _ _ _ (Res.cells nb8 _ :: _) := H.front1); revert w2; revert nb9; revert nb8; exact key4.out) | (guard_target =~ wpTreeC _ _ _ Tr.nil _ _ _; refine treeC_nil H (fun w3 H2 => ?_); clear H; (try clear w2); revert w3; intro w2 H)))
      exact bodyPost_ret (v := .bool true) (by simp [results, Try.results7]) rfl ⟨rfl, H.below⟩
    · have hz : ∃ z : Int, (rightB vs es = false ∨ (es.findIdx? fun v => v.id == e0) = none) := ⟨0, by
        cases hr : rightB vs es with
        | false => exact .inl rfl
        | true =>
          cases hi : (es.findIdx? fun v => v.id == e0) with
          | none => exact .inr rfl
          | some j => exact absurd ⟨hr, by rw [hi]; rfl⟩ hok⟩
      obtain ⟨_, hz⟩ := hz
      have hn1 : (if rightB vs es = true then (nxM vs es ⟨e0, b0'⟩).getD ⟨0, false⟩ else ⟨0, false⟩) = (⟨0, false⟩ : Hf) ∧ (rightB vs es && (nxM vs es ⟨e0, b0'⟩).isSome) = false := by
        rcases hz with h | h
        · rw [h]; simp
        · rw [nxM_no (no_half h).1]; simp
      have hn2 : endsZ vs es ⟨e0, b0'⟩ = (zVt, zVt, false) := by
        unfold endsZ
        rcases hz with h | h
        · rw [h]; rfl
        · simp only [(no_half (b := b0') h).2]; split <;> rfl
      rw [hn1.1, hn1.2] at h1
      rw [hn2] at h2
      simp only [zVt] at h2
      have hq2 : ∀ w, (binOp .eql 36 (.agg #[.int .i64 0, .bool false]) (.agg #[.int .i64 0, .bool false])).run Try.prog w = .ok (.bool true) w := fun w => by rw [eqH_eql]; simp
      have h5 : rightB vs es = true → (es.findIdx? fun v => v.id == e0) = none := fun h => by
        rcases hz with h' | h'
        · rw [h] at h'; cases h'
        · exact h'
      generalize rightB vs es = r at h3 h5
      clear hn1 hn2 hz hok
      cases r
      · clear h5 h4
        go_enter Try.func7, Try.ntmps7
        have tk0 : True := trivial
        have tk1 : True := trivial
        go_wp2_with (first
          | go_big_skip
          | (guard_target =~ Code.wp _ (Code.region 3 _ true) _ _ _; refine region_treeC0 3 (G := True) (.q 0 (.q 1 (.q 2 (.q 3 (.q 4 (.q 5 (.q 6 (.e 7 (.e 8 (.q 9 .nil)))))))))) (by kernel_rfl) (by intro c a d v w h; cases d <;> exact h) (by kernel_rfl) H ⟨trivial⟩ (fun _ w3 H2 => ?_); (clear H; (try clear w2); revert w3; intro w2 H))
          | (guard_target =~ Code.wp _ (Code.region 4 _ true) _ _ _; refine region_treeC0 4 (G := ?_) (.q 0 (.q 1 (.q 2 (.q 3 (.q 4 (.q 5 (.q 6 (.q 7 (.both (.e 8 (.e 9 (.e 10 (.e 11 (.q 12 .nil))))) (.e 9 (.e 8 (.e 10 (.e 11 (.q 12 .nil)))))))))))))) (by kernel_rfl) (by intro c a d v w h; cases d <;> exact h) (by kernel_rfl) H ?_ (fun key4 w3 H2 => ?_); rotate_left 2; (revert w3; intro w2 H))
          | (guard_target =~ Key 4 _; refine ⟨?_⟩; intro nb8 nb9 w2 H)
          | (go_at_call 12; (with_reducible refine (hfw _).mono ?_); rintro e w3 ⟨rfl, hb⟩; replace H := H.ext hb; clear hb; dsimp only; (skip))
          | (go_at_call 13; (with_reducible refine (awake16_any _).mono ?_); rintro e w3 ⟨rfl, hb⟩; replace H := H.ext hb; clear hb; dsimp only; (skip))
          | (go_at_call 16; (with_reducible refine (h3 _ _ (by exact H.giveRd m6 f0) (by exact H.giveRd m5 f9)).mono ?_); rintro e w3 ⟨rfl, hb⟩; replace H := H.ext hb; clear hb; dsimp only; (skip))
          | (guard_target =~ wpList _ _ _ (_ :: _) _ _; (first | (guard_target =~ wpList _ _ _ (Oper.mk _ (.load _ _) _ _ _ _ :: _) _ _; refine BigFrame.wpList_want rfl (fun K hK => ?_); (refine o_loadNC (row := ?_) rfl rfl H ?_ ?_ ?_ (hK _ _ ?_); rotate_left 1; (repeat first | exact .head _ | apply List.Mem.tail); (focus (intro _; simp [hV]; done)); (focus (intro _; simp [hV]; done))); clear hK K) | ((guard_target =~ wpList _ _ _ (Oper.mk _ (.box _ _) _ _ _ _ :: _) _ _; refine BigFrame.wpList_want rfl (fun K hK => ?_); refine o_box rfl H rfl (fun w3 b2 he H2 => hK _ _ ?_)); clear hK K he; clear H; (try clear w2); revert w3; intro w2 H; (try simp [Act.eval, List.getD, hV] at H); (try simp [Value.cells, setL, hV] at H); (first | (clear tk0; rename Nat => b1) | (clear tk1; rename Nat => b2)))); simp only [Act.put, List.setIfInBounds_toArray, List.set_cons_succ, List.set_cons_zero, hV])
          | (guard_target =~ wpTreeC _ _ _ _ _ _ _; first | (guard_target =~ wpTreeC _ _ _ (Tr.e _ Tr.nil) _ _ _; refine treeC_last (by decide +kernel) H rfl rfl (fun w3 H2 K hK => ?_); clear H; (try clear w2); (revert w3; intro w2 H); simp only [List.getElem_toArray, List.getElem_cons_succ, List.getElem_cons_zero]; (first | fail); simp only [Act.put, List.setIfInBounds_toArray, List.set_cons_succ, List.set_cons_zero, hV]) | (guard_target =~ wpTreeC _ _ _ (Tr.q _ _) _ _ _; first | (refine treeC_quiet ⟨_, H, by repeat first | exact .here | apply Suf.there⟩ rfl rfl rfl (fun K hK => ?_); simp only [List.getElem_toArray, List.getElem_cons_succ, List.getElem_cons_zero]; first | (guard_target =~ Oper.quiet _ (Oper.mk _ (.load _ _) _ _ _ _) _ _ _; (refine q_loadNC (row := ?_) rfl rfl ?_ ?_ ?_ (hK _ ?_); rotate_left 1; (repeat first | exact .head _ | apply List.Mem.tail); (focus (intro _; simp [hV]; done)); (focus (intro _; simp [hV]; done))); clear hK K; simp only [Act.put, List.setIfInBounds_toArray, List.set_cons_succ, List.set_cons_zero, hV]) | (go_big_quiet_op; (try refine ⟨_, fun _ _ => rfl, ?_⟩); refine hK _ ?_; clear hK K)) | (refine treeC_call (v := ?_) ⟨_, H, by repeat first | exact .here | apply Suf.there⟩ rfl rfl (fun w3 H K hK => ?_) ?_; rotate_left 1; (focus (simp only [List.getElem_toArray, List.getElem_cons_succ, List.getElem_cons_zero]; first | (go_big_op; first | exact hK _ (Ext.refl _) | (go_at_call 12; (with_reducible refine (hfw _).mono ?_); rintro e w3 ⟨rfl, hb⟩; dsimp only; first | exact hK _ hb | exact hK _ (Ext.refl _)) | (go_at_call 13; (with_reducible refine (awake16_any _).mono ?_); rintro e w3 ⟨rfl, hb⟩; dsimp only; first | exact hK _ hb | exact hK _ (Ext.refl _)) | (go_at_call 15; (with_reducible refine (plain16_any _ _ _ _ _ _ _).mono ?_); rintro e w3 ⟨rfl, hb⟩; dsimp only; first | exact hK _ hb | exact hK _ (Ext.refl _)) | (go_at_call 28; (with_reducible refine (h1 _ _ (by exact H.giveRd m3 f0) (by exact H.giveRd m2 f9)).mono ?_); rintro e w3 ⟨rfl, hb⟩; dsimp only; first | exact hK _ hb | exact hK _ (Ext.refl _)) | (go_at_call 29; (with_reducible refine (h2 _ _ (by exact H.giveRd m4 f0) (by exact H.giveRd m3 f9)).mono ?_); rintro e w3 ⟨rfl, hb⟩; dsimp only; first | exact hK _ hb | exact hK _ (Ext.refl _)) | (go_at_call 16; (with_reducible refine (h3 _ _ (by first | fail) (by first | fail)).mono ?_); rintro e w3 ⟨rfl, hb⟩; dsimp only; first | exact hK _ hb | exact hK _ (Ext.refl _))))); simp only [List.getElem_toArray, List.getElem_cons_succ, List.getElem_cons_zero, Act.put, List.setIfInBounds_toArray, List.set_cons_succ, List.set_cons_zero, hV]) | (refine treeC_skip ⟨_, H, by repeat first | exact .here | apply Suf.there⟩ rfl rfl ?_; simp only [List.getElem_toArray, List.getElem_cons_succ, List.getElem_cons_zero, Act.put, List.setIfInBounds_toArray, List.set_cons_succ, List.set_cons_zero, hV])) | (guard_target =~ wpTreeC _ _ _ (Tr.e _ _) _ _ _; (first | (guard_target =~ wpTreeC _ _ _ (Tr.e 8 _) _ _ _; refine treeC_one H rfl rfl (fun w3 H2 K hK => ?_); clear H; (try clear w2); (revert w3; intro w2 H); simp only [List.getElem_toArray, List.getElem_cons_succ, List.getElem_cons_zero]; ((guard_target =~ Oper.wp _ (Oper.mk _ (.alloc _) _ _ _ _) _ _ _ _; refine o_alloc (z := ?_) rfl ?_ H rfl (fun w3 b2 he H2 => hK _ _ ⟨_, H2, ?_⟩ ?_); rotate_left 1; (focus (intro _; simp; with_reducible exact rfl))); (guard_target =~ Suf _ _; repeat first | exact .here | apply Suf.there); clear hK K he; clear H; (try clear w2); revert w3; intro w2 H; (try simp [Act.eval, List.getD, hV] at H); (try simp [Value.cells, setL, hV] at H)); simp only [Act.put, List.setIfInBounds_toArray, List.set_cons_succ, List.set_cons_zero, hV]; rename Nat => nb8) | (guard_target =~ wpTreeC _ _ _ (Tr.e 9 _) _ _ _; refine treeC_one H rfl rfl (fun w3 H2 K hK => ?_); clear H; (try clear w2); (revert w3; intro w2 H); simp only [List.getElem_toArray, List.getElem_cons_succ, List.getElem_cons_zero]; ((guard_target =~ Oper.wp _ (Oper.mk _ (.alloc _) _ _ _ _) _ _ _ _; refine o_alloc (z := ?_) rfl ?_ H rfl (fun w3 b2 he H2 => hK _ _ ⟨_, H2, ?_⟩ ?_); rotate_left 1; (focus (intro _; simp; with_reducible exact rfl))); (guard_target =~ Suf _ _; repeat first | exact .here | apply Suf.there); clear hK K he; clear H; (try clear w2); revert w3; intro w2 H; (try simp [Act.eval, List.getD, hV] at H); (try simp [Value.cells, setL, hV] at H)); simp only [Act.put, List.setIfInBounds_toArray, List.set_cons_succ, List.set_cons_zero, hV]; rename Nat => nb9))) | (guard_target =~ wpTreeC _ _ _ (Tr.both _ _) _ _ _; refine treeC_both ?_ ?_) | (guard_target =~ wpTreeC _ _ _ (Tr.e _ _) _ _ _; first | (refine treeC_one H rfl rfl (fun w3 H2 K hK => ?_); clear H; (try clear w2); (revert w3; intro w2 H); simp only [List.getElem_toArray, List.getElem_cons_succ, List.getElem_cons_zero]; first | ((first | (guard_target =~ Oper.wp _ (Oper.mk _ (.store _ _ _) _ _ _ _) _ _ _ _; refine o_store (l' := ?_) (row := ?_) rfl rfl H rfl ?_ ?_ ?_ ?_ (fun w3 H2 => hK _ _ ⟨_, H2, ?_⟩ ?_); rotate_left 2; (first | exact r0 | exact r1); (focus (intro _; (simp [Act.eval, Value.cells, List.getD, hV]; done))); (focus (simp [Act.eval, Value.cells, List.getD, hV]; done)); (exact rfl); (guard_target =~ Suf _ _; repeat first | exact .here | apply Suf.there); clear hK K; clear H; (try clear w2); revert w3; intro w2 H; (try simp [Act.eval, List.getD, hV] at H); (try simp [Value.cells, setL, hV] at H)) | ((guard_target =~ Oper.wp _ (Oper.mk _ (.alloc _) _ _ _ _) _ _ _ _; refine o_alloc (z := ?_) rfl ?_ H rfl (fun w3 b2 he H2 => hK _ _ ⟨_, H2, ?_⟩ ?_); rotate_left 1; (focus (intro _; simp; with_reducible exact rfl))); (guard_target =~ Suf _ _; repeat first | exact .here | apply Suf.there); clear hK K he; clear H; (try clear w2); revert w3; intro w2 H; (try simp [Act.eval, List.getD, hV] at H); (try simp [Value.cells, setL, hV] at H); (skip))); simp only [Act.put, List.setIfInBounds_toArray, List.set_cons_succ, List.set_cons_zero, hV]) | (go_big_op; (first | fail))) | (refine treeC_one_skip (fun w3 hx => ⟨_, H.ext hx, by repeat first | exact .here | apply Suf.there⟩) rfl rfl (fun w3 hx => ?_); replace H := H.ext hx; clear hx; (try clear w2); revert w3; intro w2 H; simp only [List.getElem_toArray, List.getElem_cons_succ, List.getElem_cons_zero, Act.put, List.setIfInBounds_toArray, List.set_cons_succ, List.set_cons_zero, hV])) | (refine treeC_nil H (fun w3 H2 => ?_); clear H; (try clear w2); revert w3; intro w2 H; (first | replace H : Own _ _ _ (Res.cells nb9 _ :: _) := H | replace H : Own _ _ _ (Res.cells nb9 _ :: _) := H.front1); (replace H : Own _ _ _ (Res.cells nb8 _ :: _) := H.front1); revert w2; revert nb9; revert nb8; exact key4.out) | (guard_target =~ wpTreeC _ _ _ Tr.nil _ _ _; refine treeC_nil H (fun w3 H2 => ?_); clear H; (try clear w2); revert w3; intro w2 H)))
        exact bodyPost_ret (v := .bool true) (by simp [results, Try.results7]) rfl ⟨rfl, H.below⟩
      · rw [h5 rfl] at h4
        simp only [ixZ] at h4
        clear h5
        go_enter Try.func7, Try.ntmps7
        have tk0 : True := trivial
        have tk1 : True := trivial
        go_wp2_with (first
          | (guard_target =~ Code.wp _ (Code.region 3 _ true) _ _ _; refine region_treeC0 3 (G := True) (.q 0 (.q 1 (.q 2 (.q 3 (.q 4 (.q 5 (.q 6 (.e 7 (.e 8 (.q 9 .nil)))))))))) (by kernel_rfl) (by intro c a d v w h; cases d <;> exact h) (by kernel_rfl) H ⟨trivial⟩ (fun _ w3 H2 => ?_); (clear H; (try clear w2); revert w3; intro w2 H))
          | (guard_target =~ Code.wp _ (Code.region 4 _ true) _ _ _; refine region_treeC0 4 (G := ?_) (.q 0 (.q 1 (.q 2 (.q 3 (.q 4 (.q 5 (.q 6 (.q 7 (.both (.e 8 (.e 9 (.e 10 (.e 11 (.q 12 .nil))))) (.e 9 (.e 8 (.e 10 (.e 11 (.q 12 .nil)))))))))))))) (by kernel_rfl) (by intro c a d v w h; cases d <;> exact h) (by kernel_rfl) H ?_ (fun key4 w3 H2 => ?_); rotate_left 2; (revert w3; intro w2 H))
          | (guard_target =~ Key 4 _; refine ⟨?_⟩; intro nb8 nb9 w2 H)
          | (go_at_call 12; (with_reducible refine (hfw _).mono ?_); rintro e w3 ⟨rfl, hb⟩; replace H := H.ext hb; clear hb; dsimp only; (skip))
          | (go_at_call 13; (with_reducible refine (awake16_any _).mono ?_); rintro e w3 ⟨rfl, hb⟩; replace H := H.ext hb; clear hb; dsimp only; (skip))
          | (go_at_call 16; (with_reducible refine (h3 _ _ (by exact H.giveRd m6 f0) (by exact H.giveRd m5 f9)).mono ?_); rintro e w3 ⟨rfl, hb⟩; replace H := H.ext hb; clear hb; dsimp only; (skip))
          | (go_at_call 30; (with_reducible refine (h4 _ _ (by exact H.giveRd m5 f9)).mono ?_); rintro e w3 ⟨rfl, hb⟩; replace H := H.ext hb; clear hb; dsimp only; (skip))
          | (guard_target =~ wpList _ _ _ (_ :: _) _ _; (first | (guard_target =~ wpList _ _ _ (Oper.mk _ (.load _ _) _ _ _ _ :: _) _ _; refine BigFrame.wpList_want rfl (fun K hK => ?_); (first | (refine o_loadC (v := ?_) (row := ?_) rfl rfl H ?_ ?_ ?_ (hK _ _ ?_); rotate_left 2; (repeat first | exact .head _ | apply List.Mem.tail); (exact rfl); (focus (intro _; simp [hV]; done))) | (refine o_loadNC (row := ?_) rfl rfl H ?_ ?_ ?_ (hK _ _ ?_); rotate_left 1; (repeat first | exact .head _ | apply List.Mem.tail); (focus (intro _; simp [hV]; done)); (focus (intro _; simp [hV]; done)))); clear hK K) | ((guard_target =~ wpList _ _ _ (Oper.mk _ (.box _ _) _ _ _ _ :: _) _ _; refine BigFrame.wpList_want rfl (fun K hK => ?_); refine o_box rfl H rfl (fun w3 b2 he H2 => hK _ _ ?_)); clear hK K he; clear H; (try clear w2); revert w3; intro w2 H; (try simp [Act.eval, List.getD, hV] at H); (try simp [Value.cells, setL, hV] at H); (first | (clear tk0; rename Nat => b1) | (clear tk1; rename Nat => b2)))); simp only [Act.put, List.setIfInBounds_toArray, List.set_cons_succ, List.set_cons_zero, hV])
          | (guard_target =~ wpTreeC _ _ _ _ _ _ _; first | (guard_target =~ wpTreeC _ _ _ (Tr.e _ Tr.nil) _ _ _; refine treeC_last (by decide +kernel) H rfl rfl (fun w3 H2 K hK => ?_); clear H; (try clear w2); (revert w3; intro w2 H); simp only [List.getElem_toArray, List.getElem_cons_succ, List.getElem_cons_zero]; (first | fail); simp only [Act.put, List.setIfInBounds_toArray, List.set_cons_succ, List.set_cons_zero, hV]) | (guard_target =~ wpTreeC _ _ _ (Tr.q _ _) _ _ _; first | (refine treeC_quiet ⟨_, H, by repeat first | exact .here | apply Suf.there⟩ rfl rfl rfl (fun K hK => ?_); simp only [List.getElem_toArray, List.getElem_cons_succ, List.getElem_cons_zero]; first | (guard_target =~ Oper.quiet _ (Oper.mk _ (.load _ _) _ _ _ _) _ _ _; (refine q_loadNC (row := ?_) rfl rfl ?_ ?_ ?_ (hK _ ?_); rotate_left 1; (repeat first | exact .head _ | apply List.Mem.tail); (focus (intro _; simp [hV]; done)); (focus (intro _; simp [hV]; done))); clear hK K; simp only [Act.put, List.setIfInBounds_toArray, List.set_cons_succ, List.set_cons_zero, hV]) | (go_big_quiet_op; (try refine ⟨_, fun _ _ => rfl, ?_⟩); refine hK _ ?_; clear hK K)) | (refine treeC_call (v := ?_) ⟨_, H, by repeat first | exact .here | apply Suf.there⟩ rfl rfl (fun w3 H K hK => ?_) ?_; rotate_left 1; (focus (simp only [List.getElem_toArray, List.getElem_cons_succ, List.getElem_cons_zero]; first | (go_big_op; first | exact hK _ (Ext.refl _) | (go_at_call 12; (with_reducible refine (hfw _).mono ?_); rintro e w3 ⟨rfl, hb⟩; dsimp only; first | exact hK _ hb | exact hK _ (Ext.refl _)) | (go_at_call 13; (with_reducible refine (awake16_any _).mono ?_); rintro e w3 ⟨rfl, hb⟩; dsimp only; first | exact hK _ hb | exact hK _ (Ext.refl _)) | (go_at_call 15; (with_reducible refine (plain16_any _ _ _ _ _ _ _).mono ?_); rintro e w3 ⟨rfl, hb⟩; dsimp only; first | exact hK _ hb | exact hK _ (Ext.refl _)) | (go_at_call 28; (with_reducible refine (h1 _ _ (by exact H.giveRd m3 f0) (by exact H.giveRd m2 f9)).mono ?_); rintro e w3 ⟨rfl, hb⟩; dsimp only; first | exact hK _ hb | exact hK _ (Ext.refl _)) | (go_at_call 29; (with_reducible refine (h2 _ _ (by exact H.giveRd m4 f0) (by exact H.giveRd m3 f9)).mono ?_); rintro e w3 ⟨rfl, hb⟩; dsimp only; first | exact hK _ hb | exact hK _ (Ext.refl _)) | (go_at_call 16; (with_reducible refine (h3 _ _ (by first | fail) (by first | fail)).mono ?_); rintro e w3 ⟨rfl, hb⟩; dsimp only; first | exact hK _ hb | exact hK _ (Ext.refl _)) | (go_at_call 30; (with_reducible refine (h4 _ _ (by first | fail)).mono ?_); rintro e w3 ⟨rfl, hb⟩; dsimp only; first | exact hK _ hb | exact hK _ (Ext.refl _))))); simp only [List.getElem_toArray, List.getElem_cons_succ, List.getElem_cons_zero, Act.put, List.setIfInBounds_toArray, List.set_cons_succ, List.set_cons_zero, hV]) | (refine treeC_skip ⟨_, H, by repeat first | exact .here | apply Suf.there⟩ rfl rfl ?_; simp only [List.getElem_toArray, List.getElem_cons_succ, List.getElem_cons_zero, Act.put, List.setIfInBounds_toArray, List.set_cons_succ, List.set_cons_zero, hV])) | (guard_target =~ wpTreeC _ _ _ (Tr.e _ _) _ _ _; (first | (guard_target =~ wpTreeC _ _ _ (Tr.e 8 _) _ _ _; refine treeC_one H rfl rfl (fun w3 H2 K hK => ?_); clear H; (try clear w2); (revert w3; intro w2 H); simp only [List.getElem_toArray, List.getElem_cons_succ, List.getElem_cons_zero]; ((guard_target =~ Oper.wp _ (Oper.mk _ (.alloc _) _ _ _ _) _ _ _ _; refine o_alloc (z := ?_) rfl ?_ H rfl (fun w3 b2 he H2 => hK _ _ ⟨_, H2, ?_⟩ ?_); rotate_left 1; (focus (intro _; simp; with_reducible exact rfl))); (guard_target =~ Suf _ _; repeat first | exact .here | apply Suf.there); clear hK K he; clear H; (try clear w2); revert w3; intro w2 H; (try simp [Act.eval, List.getD, hV] at H); (try simp [Value.cells, setL, hV] at H)); simp only [Act.put, List.setIfInBounds_toArray, List.set_cons_succ, List.set_cons_zero, hV]; rename Nat => nb8) | (guard_target =~ wpTreeC _ _ _ (Tr.e 9 _) _ _ _; refine treeC_one H rfl rfl (fun w3 H2 K hK => ?_); clear H; (try clear w2); (revert w3; intro w2 H); simp only [List.getElem_toArray, List.getElem_cons_succ, List.getElem_cons_zero]; ((guard_target =~ Oper.wp _ (Oper.mk _ (.alloc _) _ _ _ _) _ _ _ _; refine o_alloc (z := ?_) rfl ?_ H rfl (fun w3 b2 he H2 => hK _ _ ⟨_, H2, ?_⟩ ?_); rotate_left 1; (focus (intro _; simp; with_reducible exact rfl))); (guard_target =~ Suf _ _; repeat first | exact .here | apply Suf.there); clear hK K he; clear H; (try clear w2); revert w3; intro w2 H; (try simp [Act.eval, List.getD, hV] at H); (try simp [Value.cells, setL, hV] at H)); simp only [Act.put, List.setIfInBounds_toArray, List.set_cons_succ, List.set_cons_zero, hV]; rename Nat => nb9))) | (guard_target =~ wpTreeC _ _ _ (Tr.both _ _) _ _ _; refine treeC_both ?_ ?_) | (guard_target =~ wpTreeC _ _ _ (Tr.e _ _) _ _ _; first | (refine treeC_one H rfl rfl (fun w3 H2 K hK => ?_); clear H; (try clear w2); (revert w3; intro w2 H); simp only [List.getElem_toArray, List.getElem_cons_succ, List.getElem_cons_zero]; first | ((first | (guard_target =~ Oper.wp _ (Oper.mk _ (.store _ _ _) _ _ _ _) _ _ _ _; refine o_store (l' := ?_) (row := ?_) rfl rfl H rfl ?_ ?_ ?_ ?_ (fun w3 H2 => hK _ _ ⟨_, H2, ?_⟩ ?_); rotate_left 2; (first | exact r0 | exact r1); (focus (intro _; (simp [Act.eval, Value.cells, List.getD, hV]; done))); (focus (simp [Act.eval, Value.cells, List.getD, hV]; done)); (exact rfl); (guard_target =~ Suf _ _; repeat first | exact .here | apply Suf.there); clear hK K; clear H; (try clear w2); revert w3; intro w2 H; (try simp [Act.eval, List.getD, hV] at H); (try simp [Value.cells, setL, hV] at H)) | ((guard_target =~ Oper.wp _ (Oper.mk _ (.alloc _) _ _ _ _) _ _ _ _; refine o_alloc (z := ?_) rfl ?_ H rfl (fun w3 b2 he H2 => hK _ _ ⟨_, H2, ?_⟩ ?_); rotate_left 1; (focus (intro _; simp; with_reducible exact rfl))); (guard_target =~ Suf _ _; repeat first | exact .here | apply Suf.there); clear hK K he; clear H; (try clear w2); revert w3; intro w2 H; (try simp [Act.eval, List.getD, hV] at H); (try simp [Value.cells, setL, hV] at H); (skip))); simp only [Act.put, List.setIfInBounds_toArray, List.set_cons_succ, List.set_cons_zero, hV]) | (go_big_op; (first | fail))) | (refine treeC_one_skip (fun w3 hx => ⟨_, H.ext hx, by repeat first | exact .here | apply Suf.there⟩) rfl rfl (fun w3 hx => ?_); replace H := H.ext hx; clear hx; (try clear w2); revert w3; intro w2 H; simp only [List.getElem_toArray, List.getElem_cons_succ, List.getElem_cons_zero, Act.put, List.setIfInBounds_toArray, List.set_cons_succ, List.set_cons_zero, hV])) | (refine treeC_nil H (fun w3 H2 => ?_); clear H; (try clear w2); revert w3; intro w2 H; (first | replace H : Own _ _ _ (Res.cells nb9 _ :: _) := H | replace H : Own _ _ _ (Res.cells nb9 _ :: _) := H.front1); (replace H : Own _ _ _ (Res.cells nb8 _ :: _) := H.front1); revert w2; revert nb9; revert nb8; exact key4.out) | (guard_target =~ wpTreeC _ _ _ Tr.nil _ _ _; refine treeC_nil H (fun w3 H2 => ?_); clear H; (try clear w2); revert w3; intro w2 H)))
        exact bodyPost_ret (v := .bool true) (by simp [results, Try.results7]) rfl ⟨rfl, H.below⟩
end Go.Proofs.Ytlhmjhildlnokaa

/-
  Lists of halves that stand in a list, on: one of them opened; what SpinOnce asks of rings. No walk stands here.
-/
namespace Go.Proofs.Ytlhmjhildlnokaa
set_option linter.unusedVariables false
set_option linter.unusedSimpArgs false
open Go.RowKit

section
variable {B : Nat} {w0 w : World} {l : List Res} {hs : List Value} {rs : List (List Hf)} {F : Nat → Prop}
theorem Own.apartRo {x y : Res} (H : Own B w0 w l) (hx : x ∈ l) (hy : y ∈ l) (hxr : x.ro = true) (hyr : y.ro = false) : ∀ k, x.foot k → ¬ y.foot k := by
  have key : ∀ (m : List Res), m.Pairwise (fun r r' => (r.ro = true ∧ r'.ro = true) ∨ ∀ k, r.foot k → ¬ r'.foot k) → x ∈ m → y ∈ m → ∀ k, x.foot k → ¬ y.foot k := by
    intro m hp
    induction hp with
    | nil => intro h; cases h
    | cons h1 h2 ih =>
      rename_i z m'
      intro hx hy
      rcases List.mem_cons.1 hx with e1 | e1
      · rcases List.mem_cons.1 hy with e2 | e2
        · rw [e2, ← e1, hxr] at hyr; cases hyr
        · rcases h1 y e2 with h | h
          · rw [hyr] at h; cases h.2
          · rw [e1]; exact h
      · rcases List.mem_cons.1 hy with e2 | e2
        · rcases h1 x e1 with h | h
          · rw [← e2, hyr] at h; cases h.1
          · rw [e2]; exact fun k h3 h4 => h k h4 h3
        · exact ih e1 e2
  exact key l H.apart hx hy
theorem Own.openRs (H : Own B w0 w l) (hm : RsR hs rs ∈ l) {i : Nat} {r : List Hf} (hr : rs[i]? = some r) : ∃ A c b off, hs[i]? = some (Value.slice A r.length c) ∧ Own B w0 w (.rd A b off (hR r) :: l) := by
  obtain ⟨A, c, h1, b, off, h2, h3⟩ := H.giveRs hm i r hr
  refine ⟨A, c, b, off, h1, H.add _ ⟨fun hp => (h2 hp).1, h3⟩ (fun k hk => ?_) (fun r' hr' => ?_)⟩
  · obtain ⟨rfl, hp⟩ := hk
    exact ⟨(h2 hp).2.1, fun q => by cases q⟩
  · cases hro : r'.ro with
    | true => exact .inl ⟨rfl, rfl⟩
    | false =>
      refine .inr fun k hk hk' => ?_
      obtain ⟨rfl, hp⟩ := hk
      refine H.apartRo hm hr' rfl hro k ?_ hk'
      obtain ⟨hA, _, _⟩ := h2 hp
      subst hA
      exact ⟨i, r, off, c, hr, hp, h1⟩
end
theorem once_not {rs : List (List Hf)} {i q : Nat} {r : List Hf} {h : Hf} (hn : rs.flatten.Nodup) (hr : rs[i]? = some r) (hh : r[q]? = some h) : h ∉ (rs.take i).flatten ++ r.take q := by
  have hi := (List.getElem?_eq_some_iff.1 hr)
  have e : rs = rs.take i ++ r :: rs.drop (i + 1) := by
    obtain ⟨h1, h2⟩ := hi
    subst h2
    rw [← List.drop_eq_getElem_cons h1, List.take_append_drop]
  rw [e, List.flatten_append, List.flatten_cons, List.nodup_append] at hn
  obtain ⟨_, h2, h3⟩ := hn
  rw [List.nodup_append] at h2
  intro hm
  rcases List.mem_append.1 hm with hm | hm
  · exact h3 h hm h (List.mem_append_left _ (List.mem_of_getElem? hh)) rfl
  · obtain ⟨k, hk⟩ := List.getElem?_of_mem hm
    rw [List.getElem?_take] at hk
    split at hk
    · rename_i hkq
      have hq := (List.getElem?_eq_some_iff.1 hh)
      have hk2 := (List.getElem?_eq_some_iff.1 hk)
      have := (List.getElem_inj (h₀ := hk2.1) (h₁ := hq.1) h2.1).1 (by rw [hk2.2, hq.2])
      omega
    · cases hk
theorem take_flat {rs : List (List Hf)} {i : Nat} {r : List Hf} (hr : rs[i]? = some r) : (rs.take (i + 1)).flatten = (rs.take i).flatten ++ r := by
  rw [List.take_add_one, hr, List.flatten_append]; simp
theorem lessH_Q (a b : Hf) : lessH a b = lessQ a b := rfl
/-- What SpinOnce asks of a half in a ring. -/
structure OnceP (vs : List Vt) (es : List Eg) (rs : List (List Hf)) (i q : Nat) (r : List Hf) (e : Int) (b : Bool) (ne : Int) (nb : Bool) (he : Int) (hb : Bool) : Prop where
  new : (⟨e, b⟩ : Hf) ∉ (rs.take i).flatten ++ r.take q
  mem : (⟨e, b⟩ : Hf) ∈ halves es
  next : nextZ vs es ⟨e, b⟩ = ⟨ne, nb⟩
  at_ : r[(q + 1) % r.length]? = some ⟨ne, nb⟩
  from_ : fromZ es ⟨ne, nb⟩ = toZ es ⟨e, b⟩
  nmem : (⟨ne, nb⟩ : Hf) ∈ halves es
  head : r[0]? = some ⟨he, hb⟩
  least : lessH ⟨e, b⟩ ⟨he, hb⟩ = false
theorem once_of {vs : List Vt} {es : List Eg} (H : RightP vs es) {i q : Nat} {r : List Hf} {e : Int} {b : Bool} (hr : (ringsZ vs es)[i]? = some r) (hh : r[q]? = some ⟨e, b⟩) : ∃ ne nb he hb, OnceP vs es (ringsZ vs es) i q r e b ne nb he hb := by
  have P := rings_of (next_one H) (halves es) fun _ h => h
  have O := ringsO_of (next_one H) (halves_sorted H.ids) (halves es) [] (by simp)
  obtain ⟨h0, R⟩ := P.each r (List.mem_of_getElem? hr)
  have hm := R.sub _ (List.mem_of_getElem? hh)
  have hn := next_mem H hm
  obtain ⟨he, hb⟩ := h0
  refine ⟨(nextZ vs es ⟨e, b⟩).e, (nextZ vs es ⟨e, b⟩).b, he, hb, once_not P.nodup hr hh, hm, rfl, R.next q _ hh, hn.2, hn.1, R.head, ?_⟩
  rw [lessH_Q]
  exact O.least r (List.mem_of_getElem? hr) _ R.head _ (List.mem_of_getElem? hh)
theorem once_rise {vs : List Vt} {es : List Eg} (H : RightP vs es) {i : Nat} {r s : List Hf} (hr : (ringsZ vs es)[i]? = some r) (hs : (ringsZ vs es)[i + 1]? = some s) : ∃ e b f d, r[0]? = some ⟨e, b⟩ ∧ s[0]? = some ⟨f, d⟩ ∧ lessH ⟨e, b⟩ ⟨f, d⟩ = true := by
  have P := rings_of (next_one H) (halves es) fun _ h => h
  have O := ringsO_of (next_one H) (halves_sorted H.ids) (halves es) [] (by simp)
  obtain ⟨⟨e, b⟩, R⟩ := P.each r (List.mem_of_getElem? hr)
  obtain ⟨⟨f, d⟩, S⟩ := P.each s (List.mem_of_getElem? hs)
  refine ⟨e, b, f, d, R.head, S.head, ?_⟩
  rw [lessH_Q]
  exact (pairwise_get _).1 O.rise i (i + 1) r s (by omega) hr hs _ _ R.head S.head
theorem ring_pos {vs : List Vt} {es : List Eg} (H : RightP vs es) {r : List Hf} (hr : r ∈ ringsZ vs es) : 0 < r.length := by
  have P := rings_of (next_one H) (halves es) fun _ h => h
  obtain ⟨h0, R⟩ := P.each r hr
  exact (List.getElem?_eq_some_iff.1 R.head).1
end Go.Proofs.Ytlhmjhildlnokaa

/-
  The walk of SpinOnce.
-/
namespace Go.Proofs.Ytlhmjhildlnokaa
set_option linter.unusedVariables false
set_option linter.unusedSimpArgs false
open Go.RowKit

set_option maxRecDepth 200000 in
set_option maxHeartbeats 16000000 in
theorem law_SpinOnce (A A2 : Option Addr) (c c2 : Nat) (vs : List Vt) (es : List Eg) (w : World) (hp : PlArg w A A2 c c2 vs es) :
    Calls Try.prog 8 #[.agg #[.slice A vs.length c, .slice A2 es.length c2]] w fun e w' => e = .returned (.bool true) ∧ Below w.heap.size w w' := by
  obtain ⟨hs, hs2, hcv, hce, _, _⟩ := hp
  obtain ⟨F0, hF0⟩ : ∃ F0 : Nat → Prop, F0 = fun _ => False := ⟨_, rfl⟩
  have hFF : ∀ k, F0 k → k < w.heap.size := fun k h => by rw [hF0] at h; exact h.elim
  rw [← hF0] at hs hs2
  clear hF0
  obtain ⟨b0, o0, H1, f0⟩ := (Own.start w).addSl (hs.ro (by rfl))
  obtain ⟨b9, o9, H, f9⟩ := H1.addSl (hs2.ro (by rfl))
  clear hs hs2 H1
  have hfw := few16_any A A2 vs.length es.length c c2
  obtain ⟨v0, hv0⟩ : ∃ v, (decide (vs.length ≤ 40) && decide (es.length ≤ 40)) = v := ⟨_, rfl⟩
  rw [hv0] at hfw
  cases v0
  · clear hv0
    go_enter Try.func8, Try.ntmps8
    have tk0 : True := trivial
    go_wp2_with (first
      | (go_at_call 12; (with_reducible refine (hfw _).mono ?_); rintro e w3 ⟨rfl, hb⟩; replace H := H.ext hb; clear hb; dsimp only; (skip))
      | (go_at_call 13; (with_reducible refine (awake16_any _).mono ?_); rintro e w3 ⟨rfl, hb⟩; replace H := H.ext hb; clear hb; dsimp only; (skip))
      | (guard_target =~ wpList _ _ _ (_ :: _) _ _; (first | (guard_target =~ wpList _ _ _ (Oper.mk _ (.load _ _) _ _ _ _ :: _) _ _; refine BigFrame.wpList_want rfl (fun K hK => ?_); (refine o_loadNC (row := ?_) rfl rfl H ?_ ?_ ?_ (hK _ _ ?_); rotate_left 1; (repeat first | exact .head _ | apply List.Mem.tail); (focus (intro _; simp; done)); (focus (intro _; simp; done))); clear hK K) | ((guard_target =~ wpList _ _ _ (Oper.mk _ (.box _ _) _ _ _ _ :: _) _ _; refine BigFrame.wpList_want rfl (fun K hK => ?_); refine o_box rfl H rfl (fun w3 b2 he H2 => hK _ _ ?_)); clear hK K he; clear H; (try clear w2); revert w3; intro w2 H; simp [Act.eval, Value.cells, setL, List.getD] at H; (clear tk0; rename Nat => b1))); simp only [Act.put, List.setIfInBounds_toArray, List.set_cons_succ, List.set_cons_zero]))
    exact bodyPost_ret (v := .bool true) (by simp [results, Try.results8]) rfl ⟨rfl, H.below⟩
  · have hl : vs.length ≤ 1000000 := by simp at hv0; omega
    have hl2 : es.length ≤ 1000000 := by simp at hv0; omega
    clear hv0
    have hc2 := hce.1
    have hcc := hce.2
    have h1 := fun F w h1 h2 hF => srings_any vs es A A2 vs.length es.length c c2 F w rfl rfl h1 h2 hF hl hl2 hc2 hcc
    have h2 := fun F w h1 h2 => right_any vs es A A2 vs.length es.length c c2 F w rfl rfl h1 h2 hl hl2 hc2 hcc
    have h3 := fun F w e0 b0' h1 h2 => snext_any vs es A A2 vs.length es.length c c2 F e0 b0' w rfl rfl h1 h2 hl hl2 hc2 hcc
    have h4 := fun F w e0 b0' h1 h2 => sends_any vs es A A2 vs.length es.length c c2 F e0 b0' w rfl rfl h1 h2 hl hl2 hc2 hcc
    cases hr : rightB vs es
    · rw [hr] at h2
      simp only [hr, Bool.false_eq_true, if_false] at h1
      clear h3 h4 hr
      go_enter Try.func8, Try.ntmps8
      have tk0 : True := trivial
      go_wp2_with (first
        | (go_at_call 12; (with_reducible refine (hfw _).mono ?_); rintro e w3 ⟨rfl, hb⟩; replace H := H.ext hb; clear hb; dsimp only; (skip))
        | (go_at_call 13; (with_reducible refine (awake16_any _).mono ?_); rintro e w3 ⟨rfl, hb⟩; replace H := H.ext hb; clear hb; dsimp only; (skip))
        | (go_at_call 15; (with_reducible refine (plain16_any _ _ _ _ _ _ _).mono ?_); rintro e w3 ⟨rfl, hb⟩; replace H := H.ext hb; clear hb; dsimp only; (skip))
        | (go_at_call 14; (with_reducible refine (h1 (FW F0 _) _ (by exact H.giveRd m2 f0) (by exact H.giveRd m1 f9) (H.fw_lt rfl hFF)).mono ?_); rintro e w3 ⟨A3, c3, hs3, rfl, hb, s3, g3, a3, q3, q4⟩; replace H := H.ext hb; clear hb; obtain ⟨b3, o3, H4⟩ := H.addRet s3 a3; replace H := H4; clear H4 s3 a3; dsimp only; (skip))
        | (guard_target =~ wpList _ _ _ (_ :: _) _ _; (first | (guard_target =~ wpList _ _ _ (Oper.mk _ (.load _ _) _ _ _ _ :: _) _ _; refine BigFrame.wpList_want rfl (fun K hK => ?_); (refine o_loadNC (row := ?_) rfl rfl H ?_ ?_ ?_ (hK _ _ ?_); rotate_left 1; (repeat first | exact .head _ | apply List.Mem.tail); (focus (intro _; simp; done)); (focus (intro _; simp; done))); clear hK K) | ((guard_target =~ wpList _ _ _ (Oper.mk _ (.box _ _) _ _ _ _ :: _) _ _; refine BigFrame.wpList_want rfl (fun K hK => ?_); refine o_box rfl H rfl (fun w3 b2 he H2 => hK _ _ ?_)); clear hK K he; clear H; (try clear w2); revert w3; intro w2 H; simp [Act.eval, Value.cells, setL, List.getD] at H; (clear tk0; rename Nat => b1))); simp only [Act.put, List.setIfInBounds_toArray, List.set_cons_succ, List.set_cons_zero]))
      go_loopg [5] 0 (fun k i wr => k = 0 ∧ i = .int .i64 0 ∧ Own w.heap.size w wr [RsR hs3 [], .rd A3 b3 o3 hs3, .cells b1 [.slice A vs.length c, .slice A2 es.length c2], .rd A2 b9 o9 (eR es), .rd A b0 o0 (vR vs)])
      case atStart => exact ⟨rfl, rfl, H⟩
      case round =>
        clear H
        obtain ⟨rfl, rfl, H⟩ := hrel
        go_wp2_with (first
          | (go_at_call 15; (with_reducible refine (plain16_any _ _ _ _ _ _ _).mono ?_); rintro e w3 ⟨rfl, hb⟩; replace H := H.ext hb; clear hb; dsimp only; (skip))
          | (go_at_call 25; (with_reducible refine (h2 _ _ (by exact H.giveRd m4 f0) (by exact H.giveRd m3 f9)).mono ?_); rintro e w3 ⟨rfl, hb⟩; replace H := H.ext hb; clear hb; dsimp only; (skip))
          | (guard_target =~ wpList _ _ _ (_ :: _) _ _; (guard_target =~ wpList _ _ _ (Oper.mk _ (.load _ _) _ _ _ _ :: _) _ _; refine BigFrame.wpList_want rfl (fun K hK => ?_); (refine o_loadNC (row := ?_) rfl rfl H ?_ ?_ ?_ (hK _ _ ?_); rotate_left 1; (repeat first | exact .head _ | apply List.Mem.tail); (focus (intro _; simp; done)); (focus (intro _; simp; done))); clear hK K); simp only [Act.put, List.setIfInBounds_toArray, List.set_cons_succ, List.set_cons_zero]))
        exact bodyPost_ret (v := .bool true) (by simp [results, Try.results8]) rfl ⟨rfl, H.below⟩
    · have HR := Lib.hid (rightB_P hr)
      have HRB := Lib.hid hr
      rw [hr] at h2
      simp only [hr, if_true] at h1 h3
      clear hr
      obtain ⟨rs, hrs⟩ : ∃ rs, ringsZ vs es = rs := ⟨_, rfl⟩
      rw [hrs] at h1
      have hfew : rs.length ≤ 2048 := by rw [← hrs]; exact Nat.le_trans (rings_few (rings_of (next_one HR.out) (halves es) fun _ h => h)) (few_halves HR.out)
      have htot : rs.flatten.length = 2 * es.length := by rw [← hrs]; exact rings_total HR.out
      have HRS := Lib.hid hrs
      have HTOT := Lib.hid htot
      clear hrs htot
      go_enter Try.func8, Try.ntmps8
      have tk0 : True := trivial
      go_wp2_with (first
        | (go_at_call 12; (with_reducible refine (hfw _).mono ?_); rintro e w3 ⟨rfl, hb⟩; replace H := H.ext hb; clear hb; dsimp only; (skip))
        | (go_at_call 13; (with_reducible refine (awake16_any _).mono ?_); rintro e w3 ⟨rfl, hb⟩; replace H := H.ext hb; clear hb; dsimp only; (skip))
        | (go_at_call 15; (with_reducible refine (plain16_any _ _ _ _ _ _ _).mono ?_); rintro e w3 ⟨rfl, hb⟩; replace H := H.ext hb; clear hb; dsimp only; (skip))
        | (go_at_call 14; (with_reducible refine (h1 (FW F0 _) _ (by exact H.giveRd m2 f0) (by exact H.giveRd m1 f9) (H.fw_lt rfl hFF)).mono ?_); rintro e w3 ⟨A3, c3, hs3, rfl, hb, s3, g3, a3, q3, q4⟩; replace H := H.ext hb; clear hb; obtain ⟨b3, o3, H4⟩ := H.addRet s3 a3; replace H := H4; clear H4 s3 a3; dsimp only; (skip))
        | (guard_target =~ wpList _ _ _ (_ :: _) _ _; (first | (guard_target =~ wpList _ _ _ (Oper.mk _ (.load _ _) _ _ _ _ :: _) _ _; refine BigFrame.wpList_want rfl (fun K hK => ?_); (refine o_loadNC (row := ?_) rfl rfl H ?_ ?_ ?_ (hK _ _ ?_); rotate_left 1; (repeat first | exact .head _ | apply List.Mem.tail); (focus (intro _; simp; done)); (focus (intro _; simp; done))); clear hK K) | ((guard_target =~ wpList _ _ _ (Oper.mk _ (.box _ _) _ _ _ _ :: _) _ _; refine BigFrame.wpList_want rfl (fun K hK => ?_); refine o_box rfl H rfl (fun w3 b2 he H2 => hK _ _ ?_)); clear hK K he; clear H; (try clear w2); revert w3; intro w2 H; simp [Act.eval, Value.cells, setL, List.getD] at H; (clear tk0; rename Nat => b1))); simp only [Act.put, List.setIfInBounds_toArray, List.set_cons_succ, List.set_cons_zero]))
      generalize hN : rs.length = n at hfew ⊢
      have HN := Lib.hid hN
      have HG3 := Lib.hid g3
      clear hN g3
      have H := H.grow_nil 36 2
      go_loopg [5, 4] n (fun k i u wr => ∃ M, M = (rs.take (n - k)).flatten ∧ k ≤ n ∧ i = .int .i64 ((n - k : Nat) : Int) ∧ Own w.heap.size w wr [.grow 36 2 u M.length (hR M), RsR hs3 rs, .rd A3 b3 o3 hs3, .cells b1 [.slice A vs.length c, .slice A2 es.length c2], .rd A2 b9 o9 (eR es), .rd A b0 o0 (vR vs)])
      case atStart => exact ⟨[], by simp, Nat.le_refl _, by simp, H⟩
      case round =>
        clear H
        obtain ⟨M, hM, hk, rfl, H⟩ := hrel
        by_cases hlt : 0 < gk
        · obtain ⟨j, hj⟩ : ∃ j, n - gk = j := ⟨_, rfl⟩
          have hjl : j < n := by omega
          rw [hj] at hM ⊢
          obtain ⟨r, hr⟩ : ∃ r, rs[j]? = some r := ⟨_, List.getElem?_eq_getElem (by have := HN.out; omega)⟩
          have hr2 : (ringsZ vs es)[j]? = some r := by rw [HRS.out]; exact hr
          have hrl : r.length ≤ 2048 := by
            obtain ⟨h, P⟩ := (rings_of (next_one HR.out) (halves es) fun _ h => h).each r (List.mem_of_getElem? hr2)
            exact Nat.le_trans (nodup_len P.nodup P.sub) (few_halves HR.out)
          have hMl : M.length ≤ 2048 := by
            rw [hM]
            have h1 := HTOT.out
            have h2 : (rs.take j).flatten.length ≤ rs.flatten.length := by
              conv => rhs; rw [← List.take_append_drop j rs, List.flatten_append, List.length_append]
              omega
            have h3 := HR.out.few.2
            omega
          obtain ⟨A5, c5, b5, o5, e5, H5⟩ := H.openRs m1 hr
          replace H := H5.swap
          clear H5
          obtain rfl := H.rdAddr m3 (Nat.lt_of_le_of_lt (Nat.zero_le _) (List.getElem?_eq_some_iff.1 e5).1)
          have p1 := at_rd (A := some ⟨b3, o3, none⟩) (b := b3) (off := o3) e5
          have hrp : 0 < r.length := ring_pos HR.out (List.mem_of_getElem? hr2)
          obtain rfl := H.rdAddr m1 (hR_pos hrp)
          have ⟨gkA, hgA⟩ : ∃ g, g = gk := ⟨_, rfl⟩
          have HRr := Lib.hid hr2
          have HMM := Lib.hid hM
          have HJ := Lib.hid hj
          have HFL := Lib.hid (take_flat hr)
          clear hr hr2 e5 hM hj
          go_wp2_with (first | fail)
          go_loopg [6, 4] r.length (fun k q u wr => ∃ L, L = M ++ r.take (r.length - k) ∧ k ≤ r.length ∧ q = .int .i64 ((r.length - k : Nat) : Int) ∧ Own w.heap.size w wr [.grow 36 2 u L.length (hR L), .rd (some ⟨b5, o5, none⟩) b5 o5 (hR r), RsR hs3 rs, .rd (some ⟨b3, o3, none⟩) b3 o3 hs3, .cells b1 [.slice A vs.length c, .slice A2 es.length c2], .rd A2 b9 o9 (eR es), .rd A b0 o0 (vR vs)])
          case atStart => exact ⟨M, by simp, Nat.le_refl _, by simp, H⟩
          case round =>
            clear H
            obtain ⟨L, hL, hk2, rfl, H⟩ := hrel
            by_cases hlt2 : 0 < gk
            · obtain ⟨q, hq⟩ : ∃ q, r.length - gk = q := ⟨_, rfl⟩
              have hql : q < r.length := by omega
              rw [hq] at hL ⊢
              obtain ⟨e, b, he⟩ := hf_get (by omega : q < r.length)
              obtain ⟨ne, nb, e0, d0, O⟩ := once_of HR.out HRr.out he
              obtain ⟨ax, ay, bx, b_y, hE, _, hpb⟩ := ends_of HR.out O.mem HRB.out
              obtain ⟨cx, cy, dx, dy, hE2, hpc, _⟩ := ends_of HR.out O.nmem HRB.out
              rw [O.from_] at hE2 hpc
              rw [hpb] at hpc
              injection hpc with hx1 hx2
              subst hx1 hx2
              obtain ⟨mm, hmm⟩ : ∃ mm, (q + 1) % r.length = mm := ⟨_, rfl⟩
              have hmz : ((q : Int) + 1) % (r.length : Int) = (mm : Int) := by rw [← hmm, Int.natCast_emod]; congr 1
              have hml : mm < r.length := by rw [← hmm]; exact Nat.mod_lt _ hrp
              have hat := O.at_
              rw [hmm] at hat
              have p2 := h_at (A := some ⟨b5, o5, none⟩) (bb := b5) (off := o5) he
              have p3 := h_at (A := some ⟨b5, o5, none⟩) (bb := b5) (off := o5) hat
              have p4 := h_at (A := some ⟨b5, o5, none⟩) (bb := b5) (off := o5) O.head
              rw [Nat.zero_mul, Nat.add_zero] at p4
              have h5 := fun F w h1 h2' => h3 F w e b h1 h2'
              simp only [nxM_yes O.mem, O.next, Option.getD_some, Option.isSome_some, Bool.and_true, HRB.out, if_true] at h5
              have h6 := fun F w h1 h2' => h4 F w e b h1 h2'
              have h7 := fun F w h1 h2' => h4 F w ne nb h1 h2'
              simp only [hE] at h6
              simp only [hE2] at h7
              have h9 := fun w => sless_any e e0 b d0 w
              rw [O.least] at h9
              have hLl : L.length ≤ 5000 := by rw [hL, List.length_append, List.length_take]; omega
              obtain ⟨Am, cm, rfl⟩ := H.growForm m0
              have h8 := fun w h => has_any L Am L.length cm (fun _ => False) e b w rfl h (by omega)
              rw [decide_eq_false (show ¬ (⟨e, b⟩ : Hf) ∈ L by rw [hL, HMM.out, ← HRS.out]; exact O.new)] at h8
              have hg1 := eqH_guard
              have hg2 := eqVt_guard
              have hq1 : ∀ w, (binOp .neq 36 (.agg #[.int .i64 ne, .bool nb]) (.agg #[.int .i64 ne, .bool nb])).run Try.prog w = .ok (.bool false) w := fun w => by rw [eqH_neq]; simp
              have hq2 := eqVt_neq (toZ es ⟨e, b⟩) bx b_y
              generalize toZ es ⟨e, b⟩ = tz at h6 h7 hq2
              generalize fromZ es ⟨e, b⟩ = fz at h6
              generalize toZ es ⟨ne, nb⟩ = uz at h7
              have HHD := Lib.hid O.head
              have HE := Lib.hid he
              have HLL := Lib.hid hL
              have HQ := Lib.hid hq
              generalize hln : L.length = ln at H hLl h8 ⊢
              have HLN := Lib.hid hln
              clear he O hE hE2 hpb hmm hat hL hq hln
              by_cases hq0 : q = 0
              · subst hq0
                have hee := HHD.out.symm.trans HE.out
                injection hee with hee
                injection hee with hee1 hee2
                subst hee1 hee2
                rw [Nat.zero_mul, Nat.add_zero] at p2
                clear p4
                have hmz0 : (1 : Int) % (r.length : Int) = (mm : Int) := by simpa using hmz
                have tk0 : True := trivial
                go_wp2_with (first
                  | (guard_target =~ Code.wp _ (Code.region 12 _ true) _ _ _; refine region_treeC0 12 (G := True) (.q 0 (.q 1 (.q 2 (.q 3 (.q 4 (.q 5 (.q 6 (.e 7 (.e 8 (.q 9 .nil)))))))))) (by kernel_rfl) (by intro c a d v w h; cases d <;> exact h) (by kernel_rfl) H ⟨trivial⟩ (fun _ w3 H2 => ?_); (clear H; (try clear w2); revert w3; intro w2 H))
                  | (guard_target =~ Code.wp _ (Code.region 13 _ true) _ _ _; refine region_treeC0 13 (G := ?_) (.q 0 (.q 1 (.q 2 (.q 3 (.q 4 (.q 5 (.q 6 (.q 7 (.both (.e 8 (.e 9 (.e 10 (.e 11 (.q 12 .nil))))) (.e 9 (.e 8 (.e 10 (.e 11 (.q 12 .nil)))))))))))))) (by kernel_rfl) (by intro c a d v w h; cases d <;> exact h) (by kernel_rfl) H ?_ (fun key13 w3 H2 => ?_); rotate_left 2; (revert w3; intro w2 H))
                  | (guard_target =~ Key 13 _; refine ⟨?_⟩; intro nb8 nb9 w2 H)
                  | (guard_target =~ Code.wp _ (Code.region 14 _ true) _ _ _; refine region_treeC0 14 (G := ?_) (.q 0 (.q 1 (.q 2 (.q 3 (.q 4 (.q 5 (.q 6 (.q 7 (.both (.e 8 (.e 9 (.e 10 (.e 11 (.q 12 .nil))))) (.e 9 (.e 8 (.e 10 (.e 11 (.q 12 .nil)))))))))))))) (by kernel_rfl) (by intro c a d v w h; cases d <;> exact h) (by kernel_rfl) H ?_ (fun key14 w3 H2 => ?_); rotate_left 2; (revert w3; intro w2 H))
                  | (guard_target =~ Key 14 _; refine ⟨?_⟩; intro nb8 nb9 w2 H)
                  | (guard_target =~ Code.wp _ (Code.region 15 _ true) _ _ _; refine region_treeC0 15 (G := True) (.q 0 (.q 1 (.q 2 (.q 3 (.q 4 (.q 5 (.q 6 (.q 7 (.q 8 (.q 9 (.q 10 (.q 11 (.q 12 (.q 13 (.q 14 (.q 15 (.q 16 (.q 17 (.q 18 (.q 19 (.q 20 (.q 21 (.q 22 (.q 23 (.q 24 (.q 25 (.q 26 (.q 27 (.q 28 (.q 29 (.q 30 (.q 31 (.q 32 (.q 33 (.q 34 (.q 35 (.q 36 (.q 37 (.q 38 (.q 39 (.q 40 (.q 41 (.q 42 (.q 43 (.q 44 (.q 45 (.q 46 (.q 47 (.q 48 (.q 49 (.q 50 (.q 51 .nil)))))))))))))))))))))))))))))))))))))))))))))))))))) (by kernel_rfl) (by intro c a d v w h; cases d <;> exact h) (by kernel_rfl) H ⟨trivial⟩ (fun _ w3 H2 => ?_); (clear H; (try clear w2); revert w3; intro w2 H))
                  | (guard_target =~ wpList _ _ _ (_ :: _) _ _; (first | (guard_target =~ wpList _ _ _ (Oper.mk _ (.call { callee := .builtin .append, args := _, argTypes := _ }) _ _ _ _ :: _) _ _; refine BigFrame.wpList_want rfl (fun K hK => ?_); refine o_append (row := ?_) (n := ?_) (xs := ?_) (l' := ?_) infoHf rfl rfl rfl H ?_ rfl ?_ ?_ (by kernel_rfl) rfl (by decide) ?_ ?_ ?_ (fun v2 w3 H2 hn => hK _ _ ?_); rotate_left 4; (repeat first | exact .head _ | apply List.Mem.tail); (focus (simp; done)); (focus (intro _; (exact r7))); exact rfl; exact (by unfold maxLen; omega); exact (by omega); clear hK K hn; clear H; (try clear w2); revert w3; intro w2 H; simp only [List.take_succ_cons, List.take_zero, Nat.one_mul] at H; (obtain ⟨A7, c7, rfl⟩ := H.growForm (v := v2) (by repeat first | exact .head _ | apply List.Mem.tail))) | (guard_target =~ wpList _ _ _ (Oper.mk _ (.load _ _) _ _ _ _ :: _) _ _; refine BigFrame.wpList_want rfl (fun K hK => ?_); (first | (refine o_load (v := ?_) (r := ?_) rfl rfl H ?_ ?_ ?_ (hK _ _ ?_); rotate_left 2; (with_reducible assumption); (repeat first | exact .head _ | apply List.Mem.tail); (focus (intro _; simp [hmz, hmz0, hV]; done))) | (refine o_loadN (cs := ?_) (r := ?_) rfl rfl H ?_ ?_ ?_ ?_ (hK _ _ ?_); rotate_left 2; (with_reducible assumption); (repeat first | exact .head _ | apply List.Mem.tail); (focus (intro _; simp [hmz, hmz0, hV]; done)); (focus (intro _; simp [hmz, hmz0, hV]; done))) | (refine o_loadNC (row := ?_) rfl rfl H ?_ ?_ ?_ (hK _ _ ?_); rotate_left 1; (repeat first | exact .head _ | apply List.Mem.tail); (focus (intro _; simp [hmz, hmz0, hV]; done)); (focus (intro _; simp [hmz, hmz0, hV]; done)))); clear hK K) | (guard_target =~ wpList _ _ _ (Oper.mk _ (.store _ _ _) _ _ _ _ :: _) _ _; refine BigFrame.wpList_want rfl (fun K hK => ?_); refine o_store (l' := ?_) (row := ?_) rfl rfl H rfl ?_ ?_ ?_ ?_ (fun w3 H2 => hK _ _ ?_); rotate_left 2; (exact r0); (focus (intro _; (simp [Act.eval, Value.cells, List.getD, hmz, hmz0, hV]; done))); (focus (simp [Act.eval, Value.cells, List.getD, hmz, hmz0, hV]; done)); (exact rfl); clear hK K; clear H; (try clear w2); revert w3; intro w2 H; (try simp [Act.eval, List.getD, hmz, hmz0, hV] at H); (try simp [Value.cells, setL, hmz, hmz0, hV] at H)) | ((first | (guard_target =~ wpList _ _ _ (Oper.mk _ (.alloc _) _ _ _ _ :: _) _ _; refine BigFrame.wpList_want rfl (fun K hK => ?_); refine o_alloc (z := ?_) rfl ?_ H rfl (fun w3 b2 he H2 => hK _ _ ?_); rotate_left 1; (focus (intro _; simp; with_reducible exact rfl))) | (guard_target =~ wpList _ _ _ (Oper.mk _ (.buildSlice _ _ _) _ _ _ _ :: _) _ _; refine BigFrame.wpList_want rfl (fun K hK => ?_); refine o_buildSlice (C := ?_) (E := ?_) rfl rfl H ?_ rfl (fun w3 b2 he H2 => hK _ _ ?_); rotate_left 2; (focus (intro _; simp [go_sem, Instr.buildSlice]; with_reducible exact rfl)))); clear hK K he; clear H; (try clear w2); revert w3; intro w2 H; (try simp [Act.eval, List.getD, hmz, hmz0, hV] at H); (try simp [Value.cells, setL, hmz, hmz0, hV] at H); (first | (clear tk0; rename Nat => bh) | (skip)))); simp only [Act.put, List.setIfInBounds_toArray, List.set_cons_succ, List.set_cons_zero, hmz, hmz0, hV])
                  | (guard_target =~ wpTreeC _ _ _ _ _ _ _; first | (guard_target =~ wpTreeC _ _ _ (Tr.e _ Tr.nil) _ _ _; refine treeC_last (by decide +kernel) H rfl rfl (fun w3 H2 K hK => ?_); clear H; (try clear w2); (revert w3; intro w2 H); simp only [List.getElem_toArray, List.getElem_cons_succ, List.getElem_cons_zero]; (first | fail); simp only [Act.put, List.setIfInBounds_toArray, List.set_cons_succ, List.set_cons_zero, hmz, hmz0, hV]) | (guard_target =~ wpTreeC _ _ _ (Tr.q _ _) _ _ _; first | (refine treeC_quiet ⟨_, H, by repeat first | exact .here | apply Suf.there⟩ rfl rfl rfl (fun K hK => ?_); simp only [List.getElem_toArray, List.getElem_cons_succ, List.getElem_cons_zero]; first | (guard_target =~ Oper.quiet _ (Oper.mk _ (.load _ _) _ _ _ _) _ _ _; (first | (refine q_load (v := ?_) (r := ?_) rfl rfl ?_ ?_ ?_ (hK _ ?_); rotate_left 2; (with_reducible assumption); (repeat first | exact .head _ | apply List.Mem.tail); (focus (intro _; simp [hmz, hmz0, hV]; done))) | (refine q_loadN (cs := ?_) (r := ?_) rfl rfl ?_ ?_ ?_ ?_ (hK _ ?_); rotate_left 2; (with_reducible assumption); (repeat first | exact .head _ | apply List.Mem.tail); (focus (intro _; simp [hmz, hmz0, hV]; done)); (focus (intro _; simp [hmz, hmz0, hV]; done))) | (refine q_loadNC (row := ?_) rfl rfl ?_ ?_ ?_ (hK _ ?_); rotate_left 1; (repeat first | exact .head _ | apply List.Mem.tail); (focus (intro _; simp [hmz, hmz0, hV]; done)); (focus (intro _; simp [hmz, hmz0, hV]; done)))); clear hK K; simp only [Act.put, List.setIfInBounds_toArray, List.set_cons_succ, List.set_cons_zero, hmz, hmz0, hV]) | (go_big_quiet_op; (try refine ⟨_, fun _ _ => rfl, ?_⟩); refine hK _ ?_; clear hK K)) | (refine treeC_call (v := ?_) ⟨_, H, by repeat first | exact .here | apply Suf.there⟩ rfl rfl (fun w3 H K hK => ?_) ?_; rotate_left 1; (focus (simp only [List.getElem_toArray, List.getElem_cons_succ, List.getElem_cons_zero]; first | (go_big_op; first | exact hK _ (Ext.refl _) | (go_at_call 15; (with_reducible refine (plain16_any _ _ _ _ _ _ _).mono ?_); rintro e w3 ⟨rfl, hb⟩; dsimp only; first | exact hK _ hb | exact hK _ (Ext.refl _)) | (go_at_call 28; (with_reducible refine (h5 _ _ (by exact H.giveRd m7 f0) (by exact H.giveRd m6 f9)).mono ?_); rintro e w3 ⟨rfl, hb⟩; dsimp only; first | exact hK _ hb | exact hK _ (Ext.refl _)) | (go_at_call 29; (with_reducible refine (h6 _ _ (by first | exact H.giveRd m8 f0 | exact H.giveRd m10 f0) (by first | exact H.giveRd m7 f9 | exact H.giveRd m9 f9)).mono ?_); rintro e w3 ⟨rfl, hb⟩; dsimp only; first | exact hK _ hb | exact hK _ (Ext.refl _)) | (go_at_call 29; (with_reducible refine (h7 _ _ (by exact H.giveRd m10 f0) (by exact H.giveRd m9 f9)).mono ?_); rintro e w3 ⟨rfl, hb⟩; dsimp only; first | exact hK _ hb | exact hK _ (Ext.refl _)) | (go_at_call 34; (with_reducible refine (h8 _ (by exact H.slGrow m6)).mono ?_); rintro e w3 ⟨rfl, hb⟩; dsimp only; first | exact hK _ hb | exact hK _ (Ext.refl _)) | (go_at_call 21; (with_reducible refine (h9 _).mono ?_); rintro e w3 ⟨rfl, hb⟩; dsimp only; first | exact hK _ hb | exact hK _ (Ext.refl _))))); simp only [List.getElem_toArray, List.getElem_cons_succ, List.getElem_cons_zero, Act.put, List.setIfInBounds_toArray, List.set_cons_succ, List.set_cons_zero, hmz, hmz0, hV]) | (refine treeC_skip ⟨_, H, by repeat first | exact .here | apply Suf.there⟩ rfl rfl ?_; simp only [List.getElem_toArray, List.getElem_cons_succ, List.getElem_cons_zero, Act.put, List.setIfInBounds_toArray, List.set_cons_succ, List.set_cons_zero, hmz, hmz0, hV])) | (guard_target =~ wpTreeC _ _ _ (Tr.e _ _) _ _ _; (first | (guard_target =~ wpTreeC _ _ _ (Tr.e 8 _) _ _ _; refine treeC_one H rfl rfl (fun w3 H2 K hK => ?_); clear H; (try clear w2); (revert w3; intro w2 H); simp only [List.getElem_toArray, List.getElem_cons_succ, List.getElem_cons_zero]; ((guard_target =~ Oper.wp _ (Oper.mk _ (.alloc _) _ _ _ _) _ _ _ _; refine o_alloc (z := ?_) rfl ?_ H rfl (fun w3 b2 he H2 => hK _ _ ⟨_, H2, ?_⟩ ?_); rotate_left 1; (focus (intro _; simp; with_reducible exact rfl))); (guard_target =~ Suf _ _; repeat first | exact .here | apply Suf.there); clear hK K he; clear H; (try clear w2); revert w3; intro w2 H; (try simp [Act.eval, List.getD, hmz, hmz0, hV] at H); (try simp [Value.cells, setL, hmz, hmz0, hV] at H)); simp only [Act.put, List.setIfInBounds_toArray, List.set_cons_succ, List.set_cons_zero, hmz, hmz0, hV]; rename Nat => nb8) | (guard_target =~ wpTreeC _ _ _ (Tr.e 9 _) _ _ _; refine treeC_one H rfl rfl (fun w3 H2 K hK => ?_); clear H; (try clear w2); (revert w3; intro w2 H); simp only [List.getElem_toArray, List.getElem_cons_succ, List.getElem_cons_zero]; ((guard_target =~ Oper.wp _ (Oper.mk _ (.alloc _) _ _ _ _) _ _ _ _; refine o_alloc (z := ?_) rfl ?_ H rfl (fun w3 b2 he H2 => hK _ _ ⟨_, H2, ?_⟩ ?_); rotate_left 1; (focus (intro _; simp; with_reducible exact rfl))); (guard_target =~ Suf _ _; repeat first | exact .here | apply Suf.there); clear hK K he; clear H; (try clear w2); revert w3; intro w2 H; (try simp [Act.eval, List.getD, hmz, hmz0, hV] at H); (try simp [Value.cells, setL, hmz, hmz0, hV] at H)); simp only [Act.put, List.setIfInBounds_toArray, List.set_cons_succ, List.set_cons_zero, hmz, hmz0, hV]; rename Nat => nb9))) | (guard_target =~ wpTreeC _ _ _ (Tr.both _ _) _ _ _; refine treeC_both ?_ ?_) | (guard_target =~ wpTreeC _ _ _ (Tr.e _ _) _ _ _; first | (refine treeC_one H rfl rfl (fun w3 H2 K hK => ?_); clear H; (try clear w2); (revert w3; intro w2 H); simp only [List.getElem_toArray, List.getElem_cons_succ, List.getElem_cons_zero]; first | ((first | (guard_target =~ Oper.wp _ (Oper.mk _ (.store _ _ _) _ _ _ _) _ _ _ _; refine o_store (l' := ?_) (row := ?_) rfl rfl H rfl ?_ ?_ ?_ ?_ (fun w3 H2 => hK _ _ ⟨_, H2, ?_⟩ ?_); rotate_left 2; (first | exact r0 | exact r1); (focus (intro _; (simp [Act.eval, Value.cells, List.getD, hmz, hmz0, hV]; done))); (focus (simp [Act.eval, Value.cells, List.getD, hmz, hmz0, hV]; done)); (exact rfl); (guard_target =~ Suf _ _; repeat first | exact .here | apply Suf.there); clear hK K; clear H; (try clear w2); revert w3; intro w2 H; (try simp [Act.eval, List.getD, hmz, hmz0, hV] at H); (try simp [Value.cells, setL, hmz, hmz0, hV] at H)) | ((guard_target =~ Oper.wp _ (Oper.mk _ (.alloc _) _ _ _ _) _ _ _ _; refine o_alloc (z := ?_) rfl ?_ H rfl (fun w3 b2 he H2 => hK _ _ ⟨_, H2, ?_⟩ ?_); rotate_left 1; (focus (intro _; simp; with_reducible exact rfl))); (guard_target =~ Suf _ _; repeat first | exact .here | apply Suf.there); clear hK K he; clear H; (try clear w2); revert w3; intro w2 H; (try simp [Act.eval, List.getD, hmz, hmz0, hV] at H); (try simp [Value.cells, setL, hmz, hmz0, hV] at H); (skip))); simp only [Act.put, List.setIfInBounds_toArray, List.set_cons_succ, List.set_cons_zero, hmz, hmz0, hV]) | (go_big_op; (first | fail))) | (refine treeC_one_skip (fun w3 hx => ⟨_, H.ext hx, by repeat first | exact .here | apply Suf.there⟩) rfl rfl (fun w3 hx => ?_); replace H := H.ext hx; clear hx; (try clear w2); revert w3; intro w2 H; simp only [List.getElem_toArray, List.getElem_cons_succ, List.getElem_cons_zero, Act.put, List.setIfInBounds_toArray, List.set_cons_succ, List.set_cons_zero, hmz, hmz0, hV])) | (refine treeC_nil H (fun w3 H2 => ?_); clear H; (try clear w2); revert w3; intro w2 H; (first | replace H : Own _ _ _ (Res.cells nb9 _ :: _) := H | replace H : Own _ _ _ (Res.cells nb9 _ :: _) := H.front1); (replace H : Own _ _ _ (Res.cells nb8 _ :: _) := H.front1); revert w2; revert nb9; revert nb8; exact key13.out) | (refine treeC_nil H (fun w3 H2 => ?_); clear H; (try clear w2); revert w3; intro w2 H; (first | replace H : Own _ _ _ (Res.cells nb9 _ :: _) := H | replace H : Own _ _ _ (Res.cells nb9 _ :: _) := H.front1); (replace H : Own _ _ _ (Res.cells nb8 _ :: _) := H.front1); revert w2; revert nb9; revert nb8; exact key14.out) | (guard_target =~ wpTreeC _ _ _ Tr.nil _ _ _; refine treeC_nil H (fun w3 H2 => ?_); clear H; (try clear w2); revert w3; intro w2 H)))
                go_roundg (gk - 1)
                case rel =>
                  have H4 := H.tail.tail.tail.tail.tail.tail.tail
                  rw [← hR_add1] at H4
                  refine ⟨L ++ [⟨e0, d0⟩], ?_, by omega, by have := HQ.out; congr 1; omega, ?_⟩
                  · rw [show r.length - (gk - 1) = 0 + 1 by have := HQ.out; omega, List.take_add_one, HE.out, HLL.out]; simp
                  · rw [show (L ++ [(⟨e0, d0⟩ : Hf)]).length = ln + 1 by rw [← HLN.out]; simp]
                    exact H4
                case measure => omega
              · have hq3 : decide ((0 : Int) < (q : Int)) = true := by simp; omega
                have hq4 : decide (0 < q) = true := by simp; omega
                have hmz0 := hmz
                have HQ0 := Lib.hid hq0
                clear hq0
                have tk0 : True := trivial
                go_wp2_with (first
                  | (guard_target =~ Code.wp _ (Code.region 12 _ true) _ _ _; refine region_treeC0 12 (G := True) (.q 0 (.q 1 (.q 2 (.q 3 (.q 4 (.q 5 (.q 6 (.e 7 (.e 8 (.q 9 .nil)))))))))) (by kernel_rfl) (by intro c a d v w h; cases d <;> exact h) (by kernel_rfl) H ⟨trivial⟩ (fun _ w3 H2 => ?_); (clear H; (try clear w2); revert w3; intro w2 H))
                  | (guard_target =~ Code.wp _ (Code.region 13 _ true) _ _ _; refine region_treeC0 13 (G := ?_) (.q 0 (.q 1 (.q 2 (.q 3 (.q 4 (.q 5 (.q 6 (.q 7 (.both (.e 8 (.e 9 (.e 10 (.e 11 (.q 12 .nil))))) (.e 9 (.e 8 (.e 10 (.e 11 (.q 12 .nil)))))))))))))) (by kernel_rfl) (by intro c a d v w h; cases d <;> exact h) (by kernel_rfl) H ?_ (fun key13 w3 H2 => ?_); rotate_left 2; (revert w3; intro w2 H))
                  | (guard_target =~ Key 13 _; refine ⟨?_⟩; intro nb8 nb9 w2 H)
                  | (guard_target =~ Code.wp _ (Code.region 14 _ true) _ _ _; refine region_treeC0 14 (G := ?_) (.q 0 (.q 1 (.q 2 (.q 3 (.q 4 (.q 5 (.q 6 (.q 7 (.both (.e 8 (.e 9 (.e 10 (.e 11 (.q 12 .nil))))) (.e 9 (.e 8 (.e 10 (.e 11 (.q 12 .nil)))))))))))))) (by kernel_rfl) (by intro c a d v w h; cases d <;> exact h) (by kernel_rfl) H ?_ (fun key14 w3 H2 => ?_); rotate_left 2; (revert w3; intro w2 H))
                  | (guard_target =~ Key 14 _; refine ⟨?_⟩; intro nb8 nb9 w2 H)
                  | (guard_target =~ Code.wp _ (Code.region 15 _ true) _ _ _; refine region_treeC0 15 (G := True) (.q 0 (.q 1 (.q 2 (.q 3 (.q 4 (.q 5 (.q 6 (.q 7 (.q 8 (.q 9 (.q 10 (.q 11 (.q 12 (.q 13 (.q 14 (.q 15 (.q 16 (.q 17 (.q 18 (.q 19 (.q 20 (.q 21 (.q 22 (.q 23 (.q 24 (.q 25 (.q 26 (.q 27 (.q 28 (.q 29 (.q 30 (.q 31 (.q 32 (.q 33 (.q 34 (.q 35 (.q 36 (.q 37 (.q 38 (.q 39 (.q 40 (.q 41 (.q 42 (.q 43 (.q 44 (.q 45 (.q 46 (.q 47 (.q 48 (.q 49 (.q 50 (.q 51 .nil)))))))))))))))))))))))))))))))))))))))))))))))))))) (by kernel_rfl) (by intro c a d v w h; cases d <;> exact h) (by kernel_rfl) H ⟨trivial⟩ (fun _ w3 H2 => ?_); (clear H; (try clear w2); revert w3; intro w2 H))
                  | (guard_target =~ wpList _ _ _ (_ :: _) _ _; (first | (guard_target =~ wpList _ _ _ (Oper.mk _ (.call { callee := .builtin .append, args := _, argTypes := _ }) _ _ _ _ :: _) _ _; refine BigFrame.wpList_want rfl (fun K hK => ?_); refine o_append (row := ?_) (n := ?_) (xs := ?_) (l' := ?_) infoHf rfl rfl rfl H ?_ rfl ?_ ?_ (by kernel_rfl) rfl (by decide) ?_ ?_ ?_ (fun v2 w3 H2 hn => hK _ _ ?_); rotate_left 4; (repeat first | exact .head _ | apply List.Mem.tail); (focus (simp; done)); (focus (intro _; (exact r7))); exact rfl; exact (by unfold maxLen; omega); exact (by omega); clear hK K hn; clear H; (try clear w2); revert w3; intro w2 H; simp only [List.take_succ_cons, List.take_zero, Nat.one_mul] at H; (obtain ⟨A7, c7, rfl⟩ := H.growForm (v := v2) (by repeat first | exact .head _ | apply List.Mem.tail))) | (guard_target =~ wpList _ _ _ (Oper.mk _ (.load _ _) _ _ _ _ :: _) _ _; refine BigFrame.wpList_want rfl (fun K hK => ?_); (first | (refine o_load (v := ?_) (r := ?_) rfl rfl H ?_ ?_ ?_ (hK _ _ ?_); rotate_left 2; (with_reducible assumption); (repeat first | exact .head _ | apply List.Mem.tail); (focus (intro _; simp [hmz, hmz0, hV]; done))) | (refine o_loadN (cs := ?_) (r := ?_) rfl rfl H ?_ ?_ ?_ ?_ (hK _ _ ?_); rotate_left 2; (with_reducible assumption); (repeat first | exact .head _ | apply List.Mem.tail); (focus (intro _; simp [hmz, hmz0, hV]; done)); (focus (intro _; simp [hmz, hmz0, hV]; done))) | (refine o_loadNC (row := ?_) rfl rfl H ?_ ?_ ?_ (hK _ _ ?_); rotate_left 1; (repeat first | exact .head _ | apply List.Mem.tail); (focus (intro _; simp [hmz, hmz0, hV]; done)); (focus (intro _; simp [hmz, hmz0, hV]; done)))); clear hK K) | (guard_target =~ wpList _ _ _ (Oper.mk _ (.store _ _ _) _ _ _ _ :: _) _ _; refine BigFrame.wpList_want rfl (fun K hK => ?_); refine o_store (l' := ?_) (row := ?_) rfl rfl H rfl ?_ ?_ ?_ ?_ (fun w3 H2 => hK _ _ ?_); rotate_left 2; (exact r0); (focus (intro _; (simp [Act.eval, Value.cells, List.getD, hmz, hmz0, hV]; done))); (focus (simp [Act.eval, Value.cells, List.getD, hmz, hmz0, hV]; done)); (exact rfl); clear hK K; clear H; (try clear w2); revert w3; intro w2 H; (try simp [Act.eval, List.getD, hmz, hmz0, hV] at H); (try simp [Value.cells, setL, hmz, hmz0, hV] at H)) | ((first | (guard_target =~ wpList _ _ _ (Oper.mk _ (.alloc _) _ _ _ _ :: _) _ _; refine BigFrame.wpList_want rfl (fun K hK => ?_); refine o_alloc (z := ?_) rfl ?_ H rfl (fun w3 b2 he H2 => hK _ _ ?_); rotate_left 1; (focus (intro _; simp; with_reducible exact rfl))) | (guard_target =~ wpList _ _ _ (Oper.mk _ (.buildSlice _ _ _) _ _ _ _ :: _) _ _; refine BigFrame.wpList_want rfl (fun K hK => ?_); refine o_buildSlice (C := ?_) (E := ?_) rfl rfl H ?_ rfl (fun w3 b2 he H2 => hK _ _ ?_); rotate_left 2; (focus (intro _; simp [go_sem, Instr.buildSlice]; with_reducible exact rfl)))); clear hK K he; clear H; (try clear w2); revert w3; intro w2 H; (try simp [Act.eval, List.getD, hmz, hmz0, hV] at H); (try simp [Value.cells, setL, hmz, hmz0, hV] at H); (first | (clear tk0; rename Nat => bh) | (skip)))); simp only [Act.put, List.setIfInBounds_toArray, List.set_cons_succ, List.set_cons_zero, hmz, hmz0, hV])
                  | (guard_target =~ wpTreeC _ _ _ _ _ _ _; first | (guard_target =~ wpTreeC _ _ _ (Tr.e _ Tr.nil) _ _ _; refine treeC_last (by decide +kernel) H rfl rfl (fun w3 H2 K hK => ?_); clear H; (try clear w2); (revert w3; intro w2 H); simp only [List.getElem_toArray, List.getElem_cons_succ, List.getElem_cons_zero]; (first | fail); simp only [Act.put, List.setIfInBounds_toArray, List.set_cons_succ, List.set_cons_zero, hmz, hmz0, hV]) | (guard_target =~ wpTreeC _ _ _ (Tr.q _ _) _ _ _; first | (refine treeC_quiet ⟨_, H, by repeat first | exact .here | apply Suf.there⟩ rfl rfl rfl (fun K hK => ?_); simp only [List.getElem_toArray, List.getElem_cons_succ, List.getElem_cons_zero]; first | (guard_target =~ Oper.quiet _ (Oper.mk _ (.load _ _) _ _ _ _) _ _ _; (first | (refine q_load (v := ?_) (r := ?_) rfl rfl ?_ ?_ ?_ (hK _ ?_); rotate_left 2; (with_reducible assumption); (repeat first | exact .head _ | apply List.Mem.tail); (focus (intro _; simp [hmz, hmz0, hV]; done))) | (refine q_loadN (cs := ?_) (r := ?_) rfl rfl ?_ ?_ ?_ ?_ (hK _ ?_); rotate_left 2; (with_reducible assumption); (repeat first | exact .head _ | apply List.Mem.tail); (focus (intro _; simp [hmz, hmz0, hV]; done)); (focus (intro _; simp [hmz, hmz0, hV]; done))) | (refine q_loadNC (row := ?_) rfl rfl ?_ ?_ ?_ (hK _ ?_); rotate_left 1; (repeat first | exact .head _ | apply List.Mem.tail); (focus (intro _; simp [hmz, hmz0, hV]; done)); (focus (intro _; simp [hmz, hmz0, hV]; done)))); clear hK K; simp only [Act.put, List.setIfInBounds_toArray, List.set_cons_succ, List.set_cons_zero, hmz, hmz0, hV]) | (go_big_quiet_op; (try refine ⟨_, fun _ _ => rfl, ?_⟩); refine hK _ ?_; clear hK K)) | (refine treeC_call (v := ?_) ⟨_, H, by repeat first | exact .here | apply Suf.there⟩ rfl rfl (fun w3 H K hK => ?_) ?_; rotate_left 1; (focus (simp only [List.getElem_toArray, List.getElem_cons_succ, List.getElem_cons_zero]; first | (go_big_op; first | exact hK _ (Ext.refl _) | (go_at_call 15; (with_reducible refine (plain16_any _ _ _ _ _ _ _).mono ?_); rintro e w3 ⟨rfl, hb⟩; dsimp only; first | exact hK _ hb | exact hK _ (Ext.refl _)) | (go_at_call 28; (with_reducible refine (h5 _ _ (by exact H.giveRd m7 f0) (by exact H.giveRd m6 f9)).mono ?_); rintro e w3 ⟨rfl, hb⟩; dsimp only; first | exact hK _ hb | exact hK _ (Ext.refl _)) | (go_at_call 29; (with_reducible refine (h6 _ _ (by first | exact H.giveRd m8 f0 | exact H.giveRd m10 f0) (by first | exact H.giveRd m7 f9 | exact H.giveRd m9 f9)).mono ?_); rintro e w3 ⟨rfl, hb⟩; dsimp only; first | exact hK _ hb | exact hK _ (Ext.refl _)) | (go_at_call 29; (with_reducible refine (h7 _ _ (by exact H.giveRd m10 f0) (by exact H.giveRd m9 f9)).mono ?_); rintro e w3 ⟨rfl, hb⟩; dsimp only; first | exact hK _ hb | exact hK _ (Ext.refl _)) | (go_at_call 34; (with_reducible refine (h8 _ (by exact H.slGrow m6)).mono ?_); rintro e w3 ⟨rfl, hb⟩; dsimp only; first | exact hK _ hb | exact hK _ (Ext.refl _)) | (go_at_call 21; (with_reducible refine (h9 _).mono ?_); rintro e w3 ⟨rfl, hb⟩; dsimp only; first | exact hK _ hb | exact hK _ (Ext.refl _))))); simp only [List.getElem_toArray, List.getElem_cons_succ, List.getElem_cons_zero, Act.put, List.setIfInBounds_toArray, List.set_cons_succ, List.set_cons_zero, hmz, hmz0, hV]) | (refine treeC_skip ⟨_, H, by repeat first | exact .here | apply Suf.there⟩ rfl rfl ?_; simp only [List.getElem_toArray, List.getElem_cons_succ, List.getElem_cons_zero, Act.put, List.setIfInBounds_toArray, List.set_cons_succ, List.set_cons_zero, hmz, hmz0, hV])) | (guard_target =~ wpTreeC _ _ _ (Tr.e _ _) _ _ _; (first | (guard_target =~ wpTreeC _ _ _ (Tr.e 8 _) _ _ _; refine treeC_one H rfl rfl (fun w3 H2 K hK => ?_); clear H; (try clear w2); (revert w3; intro w2 H); simp only [List.getElem_toArray, List.getElem_cons_succ, List.getElem_cons_zero]; ((guard_target =~ Oper.wp _ (Oper.mk _ (.alloc _) _ _ _ _) _ _ _ _; refine o_alloc (z := ?_) rfl ?_ H rfl (fun w3 b2 he H2 => hK _ _ ⟨_, H2, ?_⟩ ?_); rotate_left 1; (focus (intro _; simp; with_reducible exact rfl))); (guard_target =~ Suf _ _; repeat first | exact .here | apply Suf.there); clear hK K he; clear H; (try clear w2); revert w3; intro w2 H; (try simp [Act.eval, List.getD, hmz, hmz0, hV] at H); (try simp [Value.cells, setL, hmz, hmz0, hV] at H)); simp only [Act.put, List.setIfInBounds_toArray, List.set_cons_succ, List.set_cons_zero, hmz, hmz0, hV]; rename Nat => nb8) | (guard_target =~ wpTreeC _ _ _ (Tr.e 9 _) _ _ _; refine treeC_one H rfl rfl (fun w3 H2 K hK => ?_); clear H; (try clear w2); (revert w3; intro w2 H); simp only [List.getElem_toArray, List.getElem_cons_succ, List.getElem_cons_zero]; ((guard_target =~ Oper.wp _ (Oper.mk _ (.alloc _) _ _ _ _) _ _ _ _; refine o_alloc (z := ?_) rfl ?_ H rfl (fun w3 b2 he H2 => hK _ _ ⟨_, H2, ?_⟩ ?_); rotate_left 1; (focus (intro _; simp; with_reducible exact rfl))); (guard_target =~ Suf _ _; repeat first | exact .here | apply Suf.there); clear hK K he; clear H; (try clear w2); revert w3; intro w2 H; (try simp [Act.eval, List.getD, hmz, hmz0, hV] at H); (try simp [Value.cells, setL, hmz, hmz0, hV] at H)); simp only [Act.put, List.setIfInBounds_toArray, List.set_cons_succ, List.set_cons_zero, hmz, hmz0, hV]; rename Nat => nb9))) | (guard_target =~ wpTreeC _ _ _ (Tr.both _ _) _ _ _; refine treeC_both ?_ ?_) | (guard_target =~ wpTreeC _ _ _ (Tr.e _ _) _ _ _; first | (refine treeC_one H rfl rfl (fun w3 H2 K hK => ?_); clear H; (try clear w2); (revert w3; intro w2 H); simp only [List.getElem_toArray, List.getElem_cons_succ, List.getElem_cons_zero]; first | ((first | (guard_target =~ Oper.wp _ (Oper.mk _ (.store _ _ _) _ _ _ _) _ _ _ _; refine o_store (l' := ?_) (row := ?_) rfl rfl H rfl ?_ ?_ ?_ ?_ (fun w3 H2 => hK _ _ ⟨_, H2, ?_⟩ ?_); rotate_left 2; (first | exact r0 | exact r1); (focus (intro _; (simp [Act.eval, Value.cells, List.getD, hmz, hmz0, hV]; done))); (focus (simp [Act.eval, Value.cells, List.getD, hmz, hmz0, hV]; done)); (exact rfl); (guard_target =~ Suf _ _; repeat first | exact .here | apply Suf.there); clear hK K; clear H; (try clear w2); revert w3; intro w2 H; (try simp [Act.eval, List.getD, hmz, hmz0, hV] at H); (try simp [Value.cells, setL, hmz, hmz0, hV] at H)) | ((guard_target =~ Oper.wp _ (Oper.mk _ (.alloc _) _ _ _ _) _ _ _ _; refine o_alloc (z := ?_) rfl ?_ H rfl (fun w3 b2 he H2 => hK _ _ ⟨_, H2, ?_⟩ ?_); rotate_left 1; (focus (intro _; simp; with_reducible exact rfl))); (guard_target =~ Suf _ _; repeat first | exact .here | apply Suf.there); clear hK K he; clear H; (try clear w2); revert w3; intro w2 H; (try simp [Act.eval, List.getD, hmz, hmz0, hV] at H); (try simp [Value.cells, setL, hmz, hmz0, hV] at H); (skip))); simp only [Act.put, List.setIfInBounds_toArray, List.set_cons_succ, List.set_cons_zero, hmz, hmz0, hV]) | (go_big_op; (first | fail))) | (refine treeC_one_skip (fun w3 hx => ⟨_, H.ext hx, by repeat first | exact .here | apply Suf.there⟩) rfl rfl (fun w3 hx => ?_); replace H := H.ext hx; clear hx; (try clear w2); revert w3; intro w2 H; simp only [List.getElem_toArray, List.getElem_cons_succ, List.getElem_cons_zero, Act.put, List.setIfInBounds_toArray, List.set_cons_succ, List.set_cons_zero, hmz, hmz0, hV])) | (refine treeC_nil H (fun w3 H2 => ?_); clear H; (try clear w2); revert w3; intro w2 H; (first | replace H : Own _ _ _ (Res.cells nb9 _ :: _) := H | replace H : Own _ _ _ (Res.cells nb9 _ :: _) := H.front1); (replace H : Own _ _ _ (Res.cells nb8 _ :: _) := H.front1); revert w2; revert nb9; revert nb8; exact key13.out) | (refine treeC_nil H (fun w3 H2 => ?_); clear H; (try clear w2); revert w3; intro w2 H; (first | replace H : Own _ _ _ (Res.cells nb9 _ :: _) := H | replace H : Own _ _ _ (Res.cells nb9 _ :: _) := H.front1); (replace H : Own _ _ _ (Res.cells nb8 _ :: _) := H.front1); revert w2; revert nb9; revert nb8; exact key14.out) | (guard_target =~ wpTreeC _ _ _ Tr.nil _ _ _; refine treeC_nil H (fun w3 H2 => ?_); clear H; (try clear w2); revert w3; intro w2 H)))
                go_roundg (gk - 1)
                case rel =>
                  have H4 := H.tail.tail.tail.tail.tail.tail.tail
                  rw [← hR_add1] at H4
                  refine ⟨L ++ [⟨e, b⟩], ?_, by omega, by have := HQ.out; congr 1; omega, ?_⟩
                  · rw [show r.length - (gk - 1) = q + 1 by have := HQ.out; omega, List.take_add_one, HE.out, HLL.out]; simp
                  · rw [show (L ++ [(⟨e, b⟩ : Hf)]).length = ln + 1 by rw [← HLN.out]; simp]
                    exact H4
                case measure => omega
            · obtain rfl : gk = 0 := by omega
              rw [Nat.sub_zero, List.take_length] at hL
              have HLL := Lib.hid hL
              clear hL
              obtain ⟨Am, cm, rfl⟩ := H.growForm m0
              by_cases hj0 : j = 0
              · subst hj0
                rw [Nat.add_zero] at p1
                go_wp2_with (first
                  | (guard_target =~ Code.wp _ (Code.region 18 _ true) _ _ _; refine region_treeC0 18 (G := True) (.q 0 (.q 1 (.q 2 (.q 3 (.q 4 (.q 5 (.q 6 (.q 7 (.q 8 (.q 9 (.q 10 (.q 11 (.q 12 (.q 13 (.q 14 (.q 15 (.q 16 (.q 17 (.q 18 .nil))))))))))))))))))) (by kernel_rfl) (by intro c a d v w h; cases d <;> exact h) (by kernel_rfl) H ⟨trivial⟩ (fun _ w3 H2 => ?_); (clear H; (try clear w2); revert w3; intro w2 H))
                  | (guard_target =~ wpList _ _ _ (_ :: _) _ _; (guard_target =~ wpList _ _ _ (Oper.mk _ (.load _ _) _ _ _ _ :: _) _ _; refine BigFrame.wpList_want rfl (fun K hK => ?_); (refine o_load (v := ?_) (r := ?_) rfl rfl H ?_ ?_ ?_ (hK _ _ ?_); rotate_left 2; (with_reducible assumption); (repeat first | exact .head _ | apply List.Mem.tail); (focus (intro _; simp; done))); clear hK K); simp only [Act.put, List.setIfInBounds_toArray, List.set_cons_succ, List.set_cons_zero])
                  | (guard_target =~ wpTreeC _ _ _ _ _ _ _; first | (guard_target =~ wpTreeC _ _ _ (Tr.e _ Tr.nil) _ _ _; refine treeC_last (by decide +kernel) H rfl rfl (fun w3 H2 K hK => ?_); clear H; (try clear w2); (revert w3; intro w2 H); simp only [List.getElem_toArray, List.getElem_cons_succ, List.getElem_cons_zero]; (first | fail); simp only [Act.put, List.setIfInBounds_toArray, List.set_cons_succ, List.set_cons_zero]) | (guard_target =~ wpTreeC _ _ _ (Tr.q _ _) _ _ _; first | (refine treeC_quiet ⟨_, H, by repeat first | exact .here | apply Suf.there⟩ rfl rfl rfl (fun K hK => ?_); simp only [List.getElem_toArray, List.getElem_cons_succ, List.getElem_cons_zero]; first | (guard_target =~ Oper.quiet _ (Oper.mk _ (.load _ _) _ _ _ _) _ _ _; (first | fail); clear hK K; simp only [Act.put, List.setIfInBounds_toArray, List.set_cons_succ, List.set_cons_zero]) | (go_big_quiet_op; (try refine ⟨_, fun _ _ => rfl, ?_⟩); refine hK _ ?_; clear hK K)) | (refine treeC_call (v := ?_) ⟨_, H, by repeat first | exact .here | apply Suf.there⟩ rfl rfl (fun w3 H K hK => ?_) ?_; rotate_left 1; (focus (simp only [List.getElem_toArray, List.getElem_cons_succ, List.getElem_cons_zero]; first | (go_big_op; first | exact hK _ (Ext.refl _)))); simp only [List.getElem_toArray, List.getElem_cons_succ, List.getElem_cons_zero, Act.put, List.setIfInBounds_toArray, List.set_cons_succ, List.set_cons_zero]) | (refine treeC_skip ⟨_, H, by repeat first | exact .here | apply Suf.there⟩ rfl rfl ?_; simp only [List.getElem_toArray, List.getElem_cons_succ, List.getElem_cons_zero, Act.put, List.setIfInBounds_toArray, List.set_cons_succ, List.set_cons_zero])) | (guard_target =~ wpTreeC _ _ _ (Tr.both _ _) _ _ _; refine treeC_both ?_ ?_) | (guard_target =~ wpTreeC _ _ _ (Tr.e _ _) _ _ _; first | (refine treeC_one H rfl rfl (fun w3 H2 K hK => ?_); clear H; (try clear w2); (revert w3; intro w2 H); simp only [List.getElem_toArray, List.getElem_cons_succ, List.getElem_cons_zero]; first | ((first | fail); simp only [Act.put, List.setIfInBounds_toArray, List.set_cons_succ, List.set_cons_zero]) | (go_big_op; (first | fail))) | (refine treeC_one_skip (fun w3 hx => ⟨_, H.ext hx, by repeat first | exact .here | apply Suf.there⟩) rfl rfl (fun w3 hx => ?_); replace H := H.ext hx; clear hx; (try clear w2); revert w3; intro w2 H; simp only [List.getElem_toArray, List.getElem_cons_succ, List.getElem_cons_zero, Act.put, List.setIfInBounds_toArray, List.set_cons_succ, List.set_cons_zero])) | (guard_target =~ wpTreeC _ _ _ Tr.nil _ _ _; refine treeC_nil H (fun w3 H2 => ?_); clear H; (try clear w2); revert w3; intro w2 H)))
                go_roundg (gkA - 1)
                case rel =>
                  refine ⟨L, ?_, by omega, by have := HJ.out; congr 1; omega, H.swap.tail⟩
                  rw [show n - (gkA - 1) = 0 + 1 by have := HJ.out; omega, HFL.out, ← HMM.out]; exact HLL.out
                case measure => omega
              · obtain ⟨p, rfl⟩ : ∃ p, j = p + 1 := ⟨j - 1, by omega⟩
                obtain ⟨s, hs⟩ : ∃ s, rs[p]? = some s := ⟨_, List.getElem?_eq_getElem (by have := HN.out; omega)⟩
                obtain ⟨e1, d1, e2, d2, g1, g2, g3⟩ := once_rise HR.out (by rw [HRS.out]; exact hs) HRr.out
                have hsp : 0 < s.length := ring_pos HR.out (List.mem_of_getElem? (by rw [HRS.out]; exact hs))
                obtain ⟨A6, c6, b6, o6, e6, H6⟩ := H.openRs m2 hs
                replace H := H6
                clear H6
                obtain rfl := H.rdAddr m0 (hR_pos hsp)
                have p5 := at_rd (A := some ⟨b3, o3, none⟩) (b := b3) (off := o3) e6
                have p6 := h_at (A := some ⟨b6, o6, none⟩) (bb := b6) (off := o6) g1
                have p7 := h_at (A := some ⟨b5, o5, none⟩) (bb := b5) (off := o5) g2
                rw [Nat.zero_mul, Nat.add_zero] at p6 p7
                have h9 := fun w => sless_any e1 e2 d1 d2 w
                rw [g3] at h9
                have hz1 : ((p + 1 : Nat) : Int) - 1 = (p : Int) := by omega
                have hz2 : decide ((0 : Int) < ((p + 1 : Nat) : Int)) = true := by simp
                clear hs g1 g2 g3 e6
                go_wp2_with (first
                  | (guard_target =~ Code.wp _ (Code.region 18 _ true) _ _ _; refine region_treeC0 18 (G := True) (.q 0 (.q 1 (.q 2 (.q 3 (.q 4 (.q 5 (.q 6 (.q 7 (.q 8 (.q 9 (.q 10 (.q 11 (.q 12 (.q 13 (.q 14 (.q 15 (.q 16 (.q 17 (.q 18 .nil))))))))))))))))))) (by kernel_rfl) (by intro c a d v w h; cases d <;> exact h) (by kernel_rfl) H ⟨trivial⟩ (fun _ w3 H2 => ?_); (clear H; (try clear w2); revert w3; intro w2 H))
                  | (guard_target =~ wpList _ _ _ (_ :: _) _ _; (guard_target =~ wpList _ _ _ (Oper.mk _ (.load _ _) _ _ _ _ :: _) _ _; refine BigFrame.wpList_want rfl (fun K hK => ?_); (refine o_load (v := ?_) (r := ?_) rfl rfl H ?_ ?_ ?_ (hK _ _ ?_); rotate_left 2; (with_reducible assumption); (repeat first | exact .head _ | apply List.Mem.tail); (focus (intro _; simp; done))); clear hK K); simp only [Act.put, List.setIfInBounds_toArray, List.set_cons_succ, List.set_cons_zero])
                  | (guard_target =~ wpTreeC _ _ _ _ _ _ _; first | (guard_target =~ wpTreeC _ _ _ (Tr.e _ Tr.nil) _ _ _; refine treeC_last (by decide +kernel) H rfl rfl (fun w3 H2 K hK => ?_); clear H; (try clear w2); (revert w3; intro w2 H); simp only [List.getElem_toArray, List.getElem_cons_succ, List.getElem_cons_zero]; (first | fail); simp only [Act.put, List.setIfInBounds_toArray, List.set_cons_succ, List.set_cons_zero]) | (guard_target =~ wpTreeC _ _ _ (Tr.q _ _) _ _ _; first | (refine treeC_quiet ⟨_, H, by repeat first | exact .here | apply Suf.there⟩ rfl rfl rfl (fun K hK => ?_); simp only [List.getElem_toArray, List.getElem_cons_succ, List.getElem_cons_zero]; first | (guard_target =~ Oper.quiet _ (Oper.mk _ (.load _ _) _ _ _ _) _ _ _; (first | (refine q_load (v := ?_) (r := ?_) rfl rfl ?_ ?_ ?_ (hK _ ?_); rotate_left 2; (with_reducible assumption); (repeat first | exact .head _ | apply List.Mem.tail); (focus (intro _; simp; done))) | (refine q_loadN (cs := ?_) (r := ?_) rfl rfl ?_ ?_ ?_ ?_ (hK _ ?_); rotate_left 2; (with_reducible assumption); (repeat first | exact .head _ | apply List.Mem.tail); (focus (intro _; simp; done)); (focus (intro _; simp; done)))); clear hK K; simp only [Act.put, List.setIfInBounds_toArray, List.set_cons_succ, List.set_cons_zero]) | (go_big_quiet_op; (try refine ⟨_, fun _ _ => rfl, ?_⟩); refine hK _ ?_; clear hK K)) | (refine treeC_call (v := ?_) ⟨_, H, by repeat first | exact .here | apply Suf.there⟩ rfl rfl (fun w3 H K hK => ?_) ?_; rotate_left 1; (focus (simp only [List.getElem_toArray, List.getElem_cons_succ, List.getElem_cons_zero]; first | (go_big_op; first | exact hK _ (Ext.refl _) | (go_at_call 21; (with_reducible refine (h9 _).mono ?_); rintro e w3 ⟨rfl, hb⟩; dsimp only; first | exact hK _ hb | exact hK _ (Ext.refl _))))); simp only [List.getElem_toArray, List.getElem_cons_succ, List.getElem_cons_zero, Act.put, List.setIfInBounds_toArray, List.set_cons_succ, List.set_cons_zero]) | (refine treeC_skip ⟨_, H, by repeat first | exact .here | apply Suf.there⟩ rfl rfl ?_; simp only [List.getElem_toArray, List.getElem_cons_succ, List.getElem_cons_zero, Act.put, List.setIfInBounds_toArray, List.set_cons_succ, List.set_cons_zero])) | (guard_target =~ wpTreeC _ _ _ (Tr.both _ _) _ _ _; refine treeC_both ?_ ?_) | (guard_target =~ wpTreeC _ _ _ (Tr.e _ _) _ _ _; first | (refine treeC_one H rfl rfl (fun w3 H2 K hK => ?_); clear H; (try clear w2); (revert w3; intro w2 H); simp only [List.getElem_toArray, List.getElem_cons_succ, List.getElem_cons_zero]; first | ((first | fail); simp only [Act.put, List.setIfInBounds_toArray, List.set_cons_succ, List.set_cons_zero]) | (go_big_op; (first | fail))) | (refine treeC_one_skip (fun w3 hx => ⟨_, H.ext hx, by repeat first | exact .here | apply Suf.there⟩) rfl rfl (fun w3 hx => ?_); replace H := H.ext hx; clear hx; (try clear w2); revert w3; intro w2 H; simp only [List.getElem_toArray, List.getElem_cons_succ, List.getElem_cons_zero, Act.put, List.setIfInBounds_toArray, List.set_cons_succ, List.set_cons_zero])) | (guard_target =~ wpTreeC _ _ _ Tr.nil _ _ _; refine treeC_nil H (fun w3 H2 => ?_); clear H; (try clear w2); revert w3; intro w2 H)))
                go_roundg (gkA - 1)
                case rel =>
                  refine ⟨L, ?_, by omega, by have := HJ.out; congr 1; omega, H.tail.swap.tail⟩
                  rw [show n - (gkA - 1) = p + 1 + 1 by have := HJ.out; omega, HFL.out, ← HMM.out]; exact HLL.out
                case measure => omega
        · obtain rfl : gk = 0 := by omega
          rw [Nat.sub_zero, List.take_of_length_le (by have := HN.out; omega)] at hM
          obtain ⟨Am, cm, rfl⟩ := H.growForm m0
          have hml : M.length = 2 * es.length := by rw [hM]; exact HTOT.out
          have hmz : ((M.length : Int) == 2 * (es.length : Int)) = true := by rw [hml]; simp
          have h3' := HR.out.few.2
          generalize M.length = ml at H hml hmz ⊢
          clear hM
          go_wp2_with (first
            | (go_at_call 15; (with_reducible refine (plain16_any _ _ _ _ _ _ _).mono ?_); rintro e w3 ⟨rfl, hb⟩; replace H := H.ext hb; clear hb; dsimp only; (skip))
            | (go_at_call 25; (with_reducible refine (h2 _ _ (by exact H.giveRd m5 f0) (by exact H.giveRd m4 f9)).mono ?_); rintro e w3 ⟨rfl, hb⟩; replace H := H.ext hb; clear hb; dsimp only; (skip))
            | (guard_target =~ wpList _ _ _ (_ :: _) _ _; (guard_target =~ wpList _ _ _ (Oper.mk _ (.load _ _) _ _ _ _ :: _) _ _; refine BigFrame.wpList_want rfl (fun K hK => ?_); (first | (refine o_loadC (v := ?_) (row := ?_) rfl rfl H ?_ ?_ ?_ (hK _ _ ?_); rotate_left 2; (repeat first | exact .head _ | apply List.Mem.tail); (exact rfl); (focus (intro _; simp; done))) | (refine o_loadNC (row := ?_) rfl rfl H ?_ ?_ ?_ (hK _ _ ?_); rotate_left 1; (repeat first | exact .head _ | apply List.Mem.tail); (focus (intro _; simp; done)); (focus (intro _; simp; done)))); clear hK K); simp only [Act.put, List.setIfInBounds_toArray, List.set_cons_succ, List.set_cons_zero]))
          exact bodyPost_ret (v := .bool true) (by simp [results, Try.results8]) rfl ⟨rfl, H.below⟩
end Go.Proofs.Ytlhmjhildlnokaa

/-
  Two closed facts of a seat's program.
-/
namespace Go.Proofs.Ytlhmjhildlnokaa
theorem Try.own0 : ownKnob Try.prog.godebug = none := by kernel_rfl
theorem Try.laidOut : laidOutB Try.prog = true := by kernel_rfl
end Go.Proofs.Ytlhmjhildlnokaa

/-
  An argument that is an array of four integers. Nothing of the program stands here.
-/
namespace Go.Proofs.Ytlhmjhildlnokaa
set_option linter.unusedVariables false
open Go.RowKit Go.WideShapes Go.ChangeShapes
section
variable {H : Type} {enc : TypeId × Value → H} {P : Program} {w : World} {base : Nat} {spare : Nat → Bool} {held : Bool}
theorem open_arr4 {r : Reach} {b0 : Nat} {t e : TypeId} {q : IntKind} {v : Value} {d : DataW H} {p : List MemPlace} (hu : P.underlying t = some (.array 4 e)) (he : P.underlying e = some (.int q)) (hc : P.cellsOf e = 1) (hC : P.cellsOf t = 4)
    (hv : Value.okWide P w r b0 t v) (h : DataW.Trod enc P w base spare held t v d p) :
    ∃ a b c x : Int, v = .agg #[.int q a, .int q b, .int q c, .int q x] ∧ (Lit.int q a).wf = true ∧ (Lit.int q b).wf = true ∧ (Lit.int q c).wf = true ∧ (Lit.int q x).wf = true := by
  simp only [Value.okWide, hu] at hv
  obtain ⟨cs, rfl, hsz, _⟩ := hv
  rw [hC] at hsz
  obtain ⟨c0, c1, c2, c3, rfl⟩ : ∃ c0 c1 c2 c3, cs = #[c0, c1, c2, c3] := by
    obtain ⟨l⟩ := cs
    match l, hsz with
    | [c0, c1, c2, c3], _ => exact ⟨c0, c1, c2, c3, rfl⟩
  obtain ⟨fuel, hf⟩ := h
  cases fuel with
  | zero => simp [DataW.trod] at hf
  | succ m =>
    rw [DataW.trod_step] at hf
    unfold DataW.trodStep at hf
    simp only [hu, Value.cells] at hf
    rw [if_pos (by rw [hC]; rfl), hc] at hf
    simp only [Option.map_eq_some_iff] at hf
    obtain ⟨ys, hy, _⟩ := hf
    have hr : List.range 4 = [0, 1, 2, 3] := rfl
    rw [hr] at hy
    simp only [List.mapM_cons, bind, Option.bind_eq_some_iff] at hy
    obtain ⟨y0, h0, _, ⟨y1, h1, _, ⟨y2, h2, _, ⟨y3, h3, _⟩, _⟩, _⟩, _⟩ := hy
    obtain ⟨a, ea, _, wa⟩ := DataW.trod_int he h0
    obtain ⟨b, eb, _, wb⟩ := DataW.trod_int he h1
    obtain ⟨c, ec, _, wc⟩ := DataW.trod_int he h2
    obtain ⟨x, ex, _, wx⟩ := DataW.trod_int he h3
    simp at ea eb ec ex
    subst ea eb ec ex
    exact ⟨a, b, c, x, rfl, wa, wb, wc, wx⟩
end
end Go.Proofs.Ytlhmjhildlnokaa

/-
  The statement SpinOnce, proved: for every input the law answers true, and each argument reads behind the call as it did. No condition.
-/
namespace Go.Proofs.Ytlhmjhildlnokaa
namespace spinOnce
open Go.ChangeShapes Go.WideShapes Go.ChangeAt Go.RowKit
open Go.ChangeMaps (open_string)
set_option maxRecDepth 100000 in
theorem lifted (os : Os) (started : os.Started) (H : Type) (enc : TypeId × Value → H) :
    ReturnsInHanded {} Try.checked os 8 .any (Rows.spinOnceSpec.pre6 enc Try.prog Try.f8 Rows.spinOnceRow.domain false) (Rows.spinOnceSpec.post enc Try.prog Try.f8 false true false false) := by
  refine returnsInHanded_of_change (C := Try.checked) Try.own0 started (by kernel_rfl) Try.func8
    (ChangeSpec.witness6 (enc := enc) (C := Try.checked) false ⟨#[], #[.agg #[.slice none 0 0, .slice none 0 0]], []⟩ 8 (by kernel_rfl) (by kernel_rfl) (by kernel_rfl) (by kernel_rfl)) ?_
  intro W base args ds gs before hval0 hW _ _
  have hval : ∀ (j : Nat) t v, Try.f8.params[j]? = some t → args[j]? = some v → Value.okWide Try.prog W .any base t v := hval0
  refine law_calls Try.laidOut (by kernel_rfl) rfl rfl Try.underlying4 (fun ds h => by match ds, h with | [_], _ => rfl) hW ?_
  obtain ⟨p, q, hA0, _, _, _, _⟩ := hW
  have hA : DataW.TrodAll enc Try.prog W 0 (fun _ => true) true Try.f8.params.toList args.toList ds p := hA0
  rw [Try.params8] at hA hval
  obtain ⟨v0, vs0, d0, ds0, p0, q0, hargs, rfl, rfl, h0, r0⟩ := trodAll_cons hA
  obtain ⟨rfl, rfl, rfl⟩ := trodAll_nil r0
  obtain rfl : args = #[v0] := by cases args; simp_all
  obtain ⟨A0, B0, c0, e0, vs0_, es0_, rfl, pl0⟩ := open_plan (hval 0 25 v0 rfl rfl) h0
  exact law_SpinOnce A0 B0 c0 e0 vs0_ es0_ W pl0
set_option maxRecDepth 100000 in
set_option maxHeartbeats 4000000 in
theorem closed : joinedFacts Try.pinned.checked.prog 8 Try.f8 Rows.spinOnceSpec Rows.spinOnceRow = true := by
  have key : ∀ P : Program, P = Try.pinned.checked.prog → joinedFacts P 8 Try.f8 Rows.spinOnceSpec Rows.spinOnceRow = true := by
    intro P hP
    unfold joinedFacts
    simp only [Bool.and_eq_true]
    repeat' apply And.intro
    all_goals first
      | (guard_target =~ Program.mayEnter _ = true; rw [hP]; exact may_enter)
      | (guard_target =~ (_ == Program.liftsFinal _) = true; rw [hP, lifts_final]; rfl)
      | (guard_target =~ (Program.make _ == _) = true; rw [hP, make_cut]; rfl)
      | (rw [hP]; as_aux_lemma => kernel_rfl)
      | (as_aux_lemma => kernel_rfl)
  exact key _ rfl
theorem over : Rows.spinOnceRow.holds Try.pinned (OpenSpec.ofChange Rows.spinOnceSpec) :=
  OpenClaim.holds_of_wide 8 Try.f8 rfl rfl rfl rfl rfl rfl rfl ⟨rfl, rfl, rfl, rfl, rfl⟩ rfl rfl rfl rfl rfl (by kernel_rfl) Try.func8 closed
    (of_decide_eq_true (by kernel_rfl)) (by unfold Func.isWrapper; first | (rw [if_pos (by decide +kernel)]; kernel_rfl) | (rw [if_neg (by decide +kernel)]; exact ⟨rfl, rfl⟩))
    (fun os started H enc _ => lifted os started H enc)
theorem proved : Rows.SpinOnceSaid :=
  over
end spinOnce
end Go.Proofs.Ytlhmjhildlnokaa
