/-
  The walk of TrapOrder.
-/
import Derived.Test.YtlhmjhildlnokaaM4191622d
import Derived.Test.YtlhmjhildlnokaaMf7e90279
import Derived.Test.YtlhmjhildlnokaaBase
import Derived.Test.YtlhmjhildlnokaaChecked
import Derived.ChangeArms
import Derived.Test.YtlhmjhildlnokaaSigns
namespace Go.Proofs.Ytlhmjhildlnokaa
set_option linter.unusedVariables false
set_option linter.unusedSimpArgs false
open Go.RowKit Go.Sort Go.Shelf

theorem Own.giveRd0 {B : Nat} {w0 w : World} {l : List Res} {A : Option Addr} {b off : Nat} {xs : List Value} (H : Own B w0 w l) (hm : Res.rd A b off xs ∈ l) : Sl (fun _ => False) w A xs := (H.giveRd (F := fun _ => False) hm (fun _ h => h.elim)).none_of

theorem all_len {vs : List Vt} {es : List Eg} {os : List Int} {X : IxS} (I : BldI vs es os X) (h : os.length ≤ 40) {k : Nat} {L : List Tz} (hk : k = L.length) (a : AllP X.P L) : k ≤ 1000000 := by
  have h1 := (bld_sizes I h).2.2
  have h2 := a.1.length_eq
  rw [live_len] at h2
  omega

set_option maxRecDepth 200000 in
set_option maxHeartbeats 64000000 in
theorem law_TrapOrder (A A2 : Option Addr) (c c2 : Nat) (vs : List Vt) (es : List Eg) (A3 : Option Addr) (c3 : Nat) (tu : List Int) (A4 : Option Addr) (c4 : Nat) (tv : List Int) (px py : Int) (w : World) (hp : PlArg w A A2 c c2 vs es) (hs3 : Sl (fun _ => False) w A3 (tu.map (Value.int .u8))) (hw3 : ∀ n ∈ tu, (Lit.int .u8 n).wf = true) (hs4 : Sl (fun _ => False) w A4 (tv.map (Value.int .u8))) (hw4 : ∀ n ∈ tv, (Lit.int .u8 n).wf = true) :
    Calls Try.prog 10 #[.agg #[.slice A vs.length c, .slice A2 es.length c2], .slice A3 tu.length c3, .slice A4 tv.length c4, pV px py] w fun e w' => e = .returned (.bool true) ∧ Below w.heap.size w w' := by
  change Sl _ w A3 (uR tu) at hs3
  change Sl _ w A4 (uR tv) at hs4
  obtain ⟨hs, hs2, hcv, hce, _, _⟩ := hp
  obtain ⟨F0, hF0⟩ : ∃ F0 : Nat → Prop, F0 = fun _ => False := ⟨_, rfl⟩
  have hFF : ∀ k, F0 k → k < w.heap.size := fun k h => by rw [hF0] at h; exact h.elim
  rw [← hF0] at hs hs2 hs3 hs4
  clear hF0
  obtain ⟨b0, o0, H1, f0⟩ := (Own.start w).addSl (hs.ro (by rfl))
  obtain ⟨b9, o9, H2, f9⟩ := H1.addSl (hs2.ro (by rfl))
  obtain ⟨b8, o8, H3, f8⟩ := H2.addSl (hs3.ro (by rfl))
  obtain ⟨b7, o7, H, f7⟩ := H3.addSl (hs4.ro (by rfl))
  clear hs hs2 hs3 hs4 H1 H2 H3
  have hfw := few21_any A A2 vs.length es.length c c2
  obtain ⟨v0, hv0⟩ : ∃ v, (decide (vs.length ≤ 40) && decide (es.length ≤ 40)) = v := ⟨_, rfl⟩
  rw [hv0] at hfw
  obtain ⟨n, hn⟩ : ∃ n, n = vs.length := ⟨_, rfl⟩
  obtain ⟨m, hm⟩ : ∃ n, n = es.length := ⟨_, rfl⟩
  obtain ⟨q, hq⟩ : ∃ n, n = tu.length := ⟨_, rfl⟩
  obtain ⟨r, hr'⟩ : ∃ n, n = tv.length := ⟨_, rfl⟩
  have hc2 := hce.1
  have hcc := hce.2
  rw [← hm] at hc2
  rw [← hn, ← hm] at hfw hv0
  rw [← hn, ← hm, ← hq, ← hr']
  obtain ⟨d1, hd1⟩ : ∃ v, decide (100 < (q : Int)) = v := ⟨_, rfl⟩
  obtain ⟨d2, hd2⟩ : ∃ v, decide (100 < (r : Int)) = v := ⟨_, rfl⟩
  have hsplit : v0 = false ∨ (v0 = true ∧ d1 = true) ∨ (v0 = true ∧ d1 = false ∧ d2 = true) ∨ (v0 = true ∧ d1 = false ∧ d2 = false) := by
    cases v0 <;> cases d1 <;> cases d2 <;> simp
  rcases hsplit with rfl | ⟨rfl, rfl⟩ | ⟨rfl, rfl, rfl⟩ | ⟨rfl, rfl, rfl⟩
  iterate 3
    · clear hn hm hq hr' hv0
      go_enter Try.func10, Try.ntmps10
      have tk0 : True := trivial
      go_wp2_with (first
        | (go_at_call 36; (with_reducible refine (hfw _).mono ?_); rintro e w3 ⟨rfl, hb⟩; replace H := H.ext hb; clear hb; dsimp only; (skip))
        | (go_at_call 35; (with_reducible refine (awake21_any _).mono ?_); rintro e w3 ⟨rfl, hb⟩; replace H := H.ext hb; clear hb; dsimp only; (skip))
        | (guard_target =~ wpList _ _ _ (_ :: _) _ _; (first | (guard_target =~ wpList _ _ _ (Oper.mk _ (.load _ _) _ _ _ _ :: _) _ _; refine BigFrame.wpList_want rfl (fun K hK => ?_); (refine o_loadNC (row := ?_) rfl rfl H ?_ ?_ ?_ (hK _ _ ?_); rotate_left 1; (repeat first | exact .head _ | apply List.Mem.tail); (focus (intro _; simp [hd1, hd2]; done)); (focus (intro _; simp [hd1, hd2]; done))); clear hK K) | ((guard_target =~ wpList _ _ _ (Oper.mk _ (.box _ _) _ _ _ _ :: _) _ _; refine BigFrame.wpList_want rfl (fun K hK => ?_); refine o_box rfl H rfl (fun w3 b2 he H2 => hK _ _ ?_)); clear hK K he; clear H; (try clear w2); revert w3; intro w2 H; (try simp [Act.eval, List.getD, hd1, hd2] at H); (try simp [Value.cells, setL, hd1, hd2] at H); (first | (clear tk0; rename Nat => b1) | (skip)))); simp only [Act.put, List.setIfInBounds_toArray, List.set_cons_succ, List.set_cons_zero, hd1, hd2]))
      exact bodyPost_ret (v := .bool true) (by simp [results, Try.results10]) rfl ⟨rfl, H.below⟩
  have h100 : q ≤ 100 := by simp at hd1; omega
  have h200 : r ≤ 100 := by simp at hd2; omega
  have hl : n ≤ 40 := by simp at hv0; omega
  have hl2 : m ≤ 40 := by simp at hv0; omega
  clear hv0
  have hu : ∀ t ∈ tu, 0 ≤ t ∧ t < 256 := fun t ht => wf_u8 (hw3 t ht)
  have hu2 : ∀ t ∈ tv, 0 ≤ t ∧ t < 256 := fun t ht => wf_u8 (hw4 t ht)
  have hord := fun F w h1 h2 => order21_any vs es tu A A2 A3 n m q c c2 c3 F w hm hq h1 h2 hu hl2 h100
  have hord2 := fun F w h1 h2 => order21_any vs es tv A A2 A4 n m r c c2 c4 F w hm hr' h1 h2 hu2 hl2 h200
  have HN := Lib.hid hn
  have HM := Lib.hid hm
  cases hr : rightB vs es
  · have hbld := fun os B k cc w h1 h2 h3 h4 => build_noR hr os A A2 B n m k c c2 cc hn hm h1 (by omega) hl2 hc2 hcc w h2 h3 h4
    have hrt := fun F w h1 h2 => right_any vs es A A2 n m c c2 F w hn hm h1 h2 (by omega) (by omega) hc2 hcc
    simp only [hr] at hrt
    clear hr hn hm hq hr' hw3 hw4 hu hu2
    go_enter Try.func10, Try.ntmps10
    have tk0 : True := trivial
    have tk1 : True := trivial
    go_wp2_with (first
      | (guard_target =~ Code.wp _ (Code.region 3 _ true) _ _ _; refine region_treeC0 3 (G := True) (.q 0 (.q 2 (.q 3 (.q 1 (.e 4 (.e 5 (.q 6 (.q 7 (.q 8 (.q 9 (.q 10 .nil))))))))))) (by kernel_rfl) (by intro c a d v w h; cases d <;> first | exact h | exact hQ h) (by kernel_rfl) H ⟨trivial⟩ (fun _ w3 H2 => ?_); (clear H; (try clear w2); revert w3; intro w2 H))
      | (guard_target =~ Code.wp _ (Code.region 4 _ true) _ _ _; refine region_treeC0 4 (G := True) (.q 0 (.q 2 (.q 3 (.q 1 (.e 4 (.e 5 (.q 6 (.q 7 (.q 8 (.q 9 (.q 10 .nil))))))))))) (by kernel_rfl) (by intro c a d v w h; cases d <;> first | exact h | exact hQ h) (by kernel_rfl) H ⟨trivial⟩ (fun _ w3 H2 => ?_); (clear H; (try clear w2); revert w3; intro w2 H))
      | (go_at_call 36; (with_reducible refine (hfw _).mono ?_); rintro e w3 ⟨rfl, hb⟩; replace H := H.ext hb; clear hb; dsimp only; (skip))
      | (go_at_call 35; (with_reducible refine (awake21_any _).mono ?_); rintro e w3 ⟨rfl, hb⟩; replace H := H.ext hb; clear hb; dsimp only; (skip))
      | (go_at_call 38; (with_reducible refine (plain21_any _ _ _ _ _ _ _).mono ?_); rintro e w3 ⟨rfl, hb⟩; replace H := H.ext hb; clear hb; dsimp only; (skip))
      | (go_at_call 39; (with_reducible refine (hord _ _ (by first | exact H.giveRd m4 f9 | exact H.giveRd m5 f9) (by first | exact H.giveRd m3 f8 | exact H.giveRd m4 f8)).mono ?_); rintro e w3 ⟨B9, k9, c9, os, rfl, hk9, hpm, H2⟩; replace H := H.join H2 rfl; clear H2; simp only [List.cons_append, List.nil_append] at H; have HK9 := Lib.hid hk9; have HPM := Lib.hid hpm; clear hk9 hpm; dsimp only; (refine hK _ _ ⟨_, H, by repeat first | exact .here | apply Suf.there⟩ ?_; clear hK K; (try simp only [Act.put, List.setIfInBounds_toArray, List.set_cons_succ, List.set_cons_zero, hd1, hd2])))
      | (go_at_call 39; (with_reducible refine (hord2 _ _ (by exact H.giveRd m5 f9) (by exact H.giveRd m3 f7)).mono ?_); rintro e w3 ⟨B8, k8, c8, ot, rfl, hk8, hpn, H2⟩; replace H := H.join H2 rfl; clear H2; simp only [List.cons_append, List.nil_append] at H; have HK8 := Lib.hid hk8; have HPN := Lib.hid hpn; clear hk8 hpn; dsimp only; (refine hK _ _ ⟨_, H, by repeat first | exact .here | apply Suf.there⟩ ?_; clear hK K; (try simp only [Act.put, List.setIfInBounds_toArray, List.set_cons_succ, List.set_cons_zero, hd1, hd2])))
      | (go_at_call 37; (with_reducible refine (hbld _ _ _ _ _ HK9.out (by first | exact H.giveRd0 m6 | exact H.giveRd0 m7) (by first | exact H.giveRd0 m5 | exact H.giveRd0 m6) (by first | exact H.slGrow m0 | exact H.slGrow m1)).mono ?_); rintro e w3 ⟨rfl, hb⟩; replace H := H.ext hb; clear hb; dsimp only; (refine hK _ _ ⟨_, H, by repeat first | exact .here | apply Suf.there⟩ ?_; clear hK K; (try simp only [Act.put, List.setIfInBounds_toArray, List.set_cons_succ, List.set_cons_zero, hd1, hd2])))
      | (go_at_call 37; (with_reducible refine (hbld _ _ _ _ _ HK8.out (by exact H.giveRd0 m7) (by exact H.giveRd0 m6) (by exact H.slGrow m0)).mono ?_); rintro e w3 ⟨rfl, hb⟩; replace H := H.ext hb; clear hb; dsimp only; (refine hK _ _ ⟨_, H, by repeat first | exact .here | apply Suf.there⟩ ?_; clear hK K; (try simp only [Act.put, List.setIfInBounds_toArray, List.set_cons_succ, List.set_cons_zero, hd1, hd2])))
      | (go_at_call 25; (with_reducible refine (hrt _ _ (by exact H.giveRd m7 f0) (by exact H.giveRd m6 f9)).mono ?_); rintro e w3 ⟨rfl, hb⟩; replace H := H.ext hb; clear hb; dsimp only; (skip))
      | (guard_target =~ wpList _ _ _ (_ :: _) _ _; (first | (guard_target =~ wpList _ _ _ (Oper.mk _ (.load _ _) _ _ _ _ :: _) _ _; refine BigFrame.wpList_want rfl (fun K hK => ?_); (refine o_loadNC (row := ?_) rfl rfl H ?_ ?_ ?_ (hK _ _ ?_); rotate_left 1; (repeat first | exact .head _ | apply List.Mem.tail); (focus (intro _; simp [hd1, hd2]; done)); (focus (intro _; simp [hd1, hd2]; done))); clear hK K) | ((guard_target =~ wpList _ _ _ (Oper.mk _ (.box _ _) _ _ _ _ :: _) _ _; refine BigFrame.wpList_want rfl (fun K hK => ?_); refine o_box rfl H rfl (fun w3 b2 he H2 => hK _ _ ?_)); clear hK K he; clear H; (try clear w2); revert w3; intro w2 H; (try simp [Act.eval, List.getD, hd1, hd2] at H); (try simp [Value.cells, setL, hd1, hd2] at H); (first | (clear tk0; rename Nat => b1) | (clear tk1; rename Nat => b2)))); simp only [Act.put, List.setIfInBounds_toArray, List.set_cons_succ, List.set_cons_zero, hd1, hd2])
      | (guard_target =~ wpTreeC _ _ _ _ _ _ _; first | (guard_target =~ wpTreeC _ _ _ (Tr.e _ Tr.nil) _ _ _; refine treeC_last (by decide +kernel) H rfl rfl (fun w3 H2 K hK => ?_); clear H; (try clear w2); (revert w3; intro w2 H); simp only [List.getElem_toArray, List.getElem_cons_succ, List.getElem_cons_zero]; (first | fail); simp only [Act.put, List.setIfInBounds_toArray, List.set_cons_succ, List.set_cons_zero, hd1, hd2]) | (guard_target =~ wpTreeC _ _ _ (Tr.q _ _) _ _ _; first | (refine treeC_quiet ⟨_, H, by repeat first | exact .here | apply Suf.there⟩ rfl rfl rfl (fun K hK => ?_); simp only [List.getElem_toArray, List.getElem_cons_succ, List.getElem_cons_zero]; first | (guard_target =~ Oper.quiet _ (Oper.mk _ (.load _ _) _ _ _ _) _ _ _; (refine q_loadNC (row := ?_) rfl rfl ?_ ?_ ?_ (hK _ ?_); rotate_left 1; (repeat first | exact .head _ | apply List.Mem.tail); (focus (intro _; simp [hd1, hd2]; done)); (focus (intro _; simp [hd1, hd2]; done))); clear hK K; simp only [Act.put, List.setIfInBounds_toArray, List.set_cons_succ, List.set_cons_zero, hd1, hd2]) | (go_big_quiet_op; (try refine ⟨_, fun _ _ => rfl, ?_⟩); refine hK _ ?_; clear hK K)) | (refine treeC_call (v := ?_) ⟨_, H, by repeat first | exact .here | apply Suf.there⟩ rfl rfl (fun w3 H K hK => ?_) ?_; rotate_left 1; (focus (simp only [List.getElem_toArray, List.getElem_cons_succ, List.getElem_cons_zero]; first | (go_big_op; first | exact hK _ (Ext.refl _) | (go_at_call 36; (with_reducible refine (hfw _).mono ?_); rintro e w3 ⟨rfl, hb⟩; dsimp only; first | exact hK _ hb | exact hK _ (Ext.refl _)) | (go_at_call 35; (with_reducible refine (awake21_any _).mono ?_); rintro e w3 ⟨rfl, hb⟩; dsimp only; first | exact hK _ hb | exact hK _ (Ext.refl _)) | (go_at_call 38; (with_reducible refine (plain21_any _ _ _ _ _ _ _).mono ?_); rintro e w3 ⟨rfl, hb⟩; dsimp only; first | exact hK _ hb | exact hK _ (Ext.refl _)) | (go_at_call 39; (with_reducible refine (hord _ _ (by first | fail) (by first | fail)).mono ?_); rintro e w3 ⟨B9, k9, c9, os, rfl, hk9, hpm, H2⟩; dsimp only; first | exact hK _ hb | exact hK _ (Ext.refl _)) | (go_at_call 39; (with_reducible refine (hord2 _ _ (by first | fail) (by first | fail)).mono ?_); rintro e w3 ⟨B8, k8, c8, ot, rfl, hk8, hpn, H2⟩; dsimp only; first | exact hK _ hb | exact hK _ (Ext.refl _)) | (go_at_call 37; (with_reducible refine (hbld _ _ _ _ _ HK9.out (by first | fail) (by first | fail) (by first | fail)).mono ?_); rintro e w3 ⟨rfl, hb⟩; dsimp only; first | exact hK _ hb | exact hK _ (Ext.refl _)) | (go_at_call 37; (with_reducible refine (hbld _ _ _ _ _ HK8.out (by first | fail) (by first | fail) (by first | fail)).mono ?_); rintro e w3 ⟨rfl, hb⟩; dsimp only; first | exact hK _ hb | exact hK _ (Ext.refl _)) | (go_at_call 25; (with_reducible refine (hrt _ _ (by first | fail) (by first | fail)).mono ?_); rintro e w3 ⟨rfl, hb⟩; dsimp only; first | exact hK _ hb | exact hK _ (Ext.refl _))))); simp only [List.getElem_toArray, List.getElem_cons_succ, List.getElem_cons_zero, Act.put, List.setIfInBounds_toArray, List.set_cons_succ, List.set_cons_zero, hd1, hd2]) | (refine treeC_skip ⟨_, H, by repeat first | exact .here | apply Suf.there⟩ rfl rfl ?_; simp only [List.getElem_toArray, List.getElem_cons_succ, List.getElem_cons_zero, Act.put, List.setIfInBounds_toArray, List.set_cons_succ, List.set_cons_zero, hd1, hd2])) | (guard_target =~ wpTreeC _ _ _ (Tr.both _ _) _ _ _; refine treeC_both ?_ ?_) | (guard_target =~ wpTreeC _ _ _ (Tr.e _ _) _ _ _; first | (refine treeC_one H rfl rfl (fun w3 H2 K hK => ?_); clear H; (try clear w2); (revert w3; intro w2 H); simp only [List.getElem_toArray, List.getElem_cons_succ, List.getElem_cons_zero]; first | ((first | fail); simp only [Act.put, List.setIfInBounds_toArray, List.set_cons_succ, List.set_cons_zero, hd1, hd2]) | (go_big_op; (skip))) | (refine treeC_one_skip (fun w3 hx => ⟨_, H.ext hx, by repeat first | exact .here | apply Suf.there⟩) rfl rfl (fun w3 hx => ?_); replace H := H.ext hx; clear hx; (try clear w2); revert w3; intro w2 H; simp only [List.getElem_toArray, List.getElem_cons_succ, List.getElem_cons_zero, Act.put, List.setIfInBounds_toArray, List.set_cons_succ, List.set_cons_zero, hd1, hd2])) | (guard_target =~ wpTreeC _ _ _ Tr.nil _ _ _; refine treeC_nil H (fun w3 H2 => ?_); clear H; (try clear w2); revert w3; intro w2 H)))
    exact bodyPost_ret (v := .bool true) (by simp [results, Try.results10]) rfl ⟨rfl, H.below⟩
  · have hbld := fun os B k cc w h0 h1 h2 h3 h4 => build_yesR hr os A A2 B n m k c c2 cc hn hm h1 (by omega) hl2 hc2 hcc w h0 h2 h3 h4
    have HR := Lib.hid (rightT_P hr)
    clear hr hn hm hq hr' hw3 hw4 hu hu2
    go_enter Try.func10, Try.ntmps10
    have tk0 : True := trivial
    have tk1 : True := trivial
    go_upto_region 5 with (first
      | (guard_target =~ Code.wp _ (Code.region 3 _ true) _ _ _; refine region_treeC0 3 (G := True) (.q 0 (.q 2 (.q 3 (.q 1 (.e 4 (.e 5 (.q 6 (.q 7 (.q 8 (.q 9 (.q 10 .nil))))))))))) (by kernel_rfl) (by intro c a d v w h; cases d <;> first | exact h | exact hQ h) (by kernel_rfl) H ⟨trivial⟩ (fun _ w3 H2 => ?_); (clear H; (try clear w2); revert w3; intro w2 H))
      | (guard_target =~ Code.wp _ (Code.region 4 _ true) _ _ _; refine region_treeC0 4 (G := True) (.q 0 (.q 2 (.q 3 (.q 1 (.e 4 (.e 5 (.q 6 (.q 7 (.q 8 (.q 9 (.q 10 .nil))))))))))) (by kernel_rfl) (by intro c a d v w h; cases d <;> first | exact h | exact hQ h) (by kernel_rfl) H ⟨trivial⟩ (fun _ w3 H2 => ?_); (clear H; (try clear w2); revert w3; intro w2 H))
      | (go_at_call 36; (with_reducible refine (hfw _).mono ?_); rintro e w3 ⟨rfl, hb⟩; replace H := H.ext hb; clear hb; dsimp only; (skip))
      | (go_at_call 35; (with_reducible refine (awake21_any _).mono ?_); rintro e w3 ⟨rfl, hb⟩; replace H := H.ext hb; clear hb; dsimp only; (skip))
      | (go_at_call 39; (with_reducible refine (hord _ _ (by first | exact H.giveRd m4 f9 | exact H.giveRd m6 f9) (by first | exact H.giveRd m3 f8 | exact H.giveRd m5 f8)).mono ?_); rintro e w3 ⟨B9, k9, c9, os, rfl, hk9, hpm, H2⟩; replace H := H.join H2 rfl; clear H2; simp only [List.cons_append, List.nil_append] at H; have HK9 := Lib.hid hk9; have HPM := Lib.hid hpm; clear hk9 hpm; dsimp only; (refine hK _ _ ⟨_, H, by repeat first | exact .here | apply Suf.there⟩ ?_; clear hK K; (try simp only [Act.put, List.setIfInBounds_toArray, List.set_cons_succ, List.set_cons_zero, hd1, hd2])))
      | (go_at_call 39; (with_reducible refine (hord2 _ _ (by exact H.giveRd m6 f9) (by exact H.giveRd m4 f7)).mono ?_); rintro e w3 ⟨B8, k8, c8, ot, rfl, hk8, hpn, H2⟩; replace H := H.join H2 rfl; clear H2; simp only [List.cons_append, List.nil_append] at H; have HK8 := Lib.hid hk8; have HPN := Lib.hid hpn; clear hk8 hpn; dsimp only; (refine hK _ _ ⟨_, H, by repeat first | exact .here | apply Suf.there⟩ ?_; clear hK K; (try simp only [Act.put, List.setIfInBounds_toArray, List.set_cons_succ, List.set_cons_zero, hd1, hd2])))
      | (go_at_call 37; (with_reducible refine (hbld _ _ _ _ _ HPM.out HK9.out (by first | exact H.giveRd0 m6 | exact H.giveRd0 m8) (by first | exact H.giveRd0 m5 | exact H.giveRd0 m7) (by first | exact H.slGrow m0 | exact H.slGrow m2)).mono ?_); rintro e w3 ⟨X, bx, ks, ke, cn, cp, dn, dp, rfl, hI, H2⟩; replace H := (H.join H2 rfl); clear H2; simp only [xL, List.cons_append, List.nil_append] at H; replace H := Own.shut (X := X) H; have HI := Lib.hid hI; clear hI; dsimp only; (refine hK _ _ ⟨_, H, by repeat first | exact .here | apply Suf.there⟩ ?_; clear hK K; (try simp only [Act.put, List.setIfInBounds_toArray, List.set_cons_succ, List.set_cons_zero, hd1, hd2])))
      | (go_at_call 37; (with_reducible refine (hbld _ _ _ _ _ HPN.out HK8.out (by exact H.giveRd0 m8) (by exact H.giveRd0 m7) (by exact H.slGrow m0)).mono ?_); rintro e w3 ⟨Y, bw, ks2, ke2, cn2, cp2, dn2, dp2, rfl, hJ, H2⟩; replace H := (H.join H2 rfl); clear H2; simp only [xL, List.cons_append, List.nil_append] at H; replace H := Own.shut (X := Y) H; have HJ := Lib.hid hJ; clear hJ; dsimp only; (refine hK _ _ ⟨_, H, by repeat first | exact .here | apply Suf.there⟩ ?_; clear hK K; (try simp only [Act.put, List.setIfInBounds_toArray, List.set_cons_succ, List.set_cons_zero, hd1, hd2])))
      | (guard_target =~ wpList _ _ _ (_ :: _) _ _; (first | (guard_target =~ wpList _ _ _ (Oper.mk _ (.load _ _) _ _ _ _ :: _) _ _; refine BigFrame.wpList_want rfl (fun K hK => ?_); (refine o_loadNC (row := ?_) rfl rfl H ?_ ?_ ?_ (hK _ _ ?_); rotate_left 1; (repeat first | exact .head _ | apply List.Mem.tail); (focus (intro _; simp [hd1, hd2]; done)); (focus (intro _; simp [hd1, hd2]; done))); clear hK K) | ((guard_target =~ wpList _ _ _ (Oper.mk _ (.box _ _) _ _ _ _ :: _) _ _; refine BigFrame.wpList_want rfl (fun K hK => ?_); refine o_box rfl H rfl (fun w3 b2 he H2 => hK _ _ ?_)); clear hK K he; clear H; (try clear w2); revert w3; intro w2 H; (try simp [Act.eval, List.getD, hd1, hd2] at H); (try simp [Value.cells, setL, hd1, hd2] at H); (first | (clear tk0; rename Nat => b1) | (clear tk1; rename Nat => b2)))); simp only [Act.put, List.setIfInBounds_toArray, List.set_cons_succ, List.set_cons_zero, hd1, hd2])
      | (guard_target =~ wpTreeC _ _ _ _ _ _ _; first | (guard_target =~ wpTreeC _ _ _ (Tr.e _ Tr.nil) _ _ _; refine treeC_last (by decide +kernel) H rfl rfl (fun w3 H2 K hK => ?_); clear H; (try clear w2); (revert w3; intro w2 H); simp only [List.getElem_toArray, List.getElem_cons_succ, List.getElem_cons_zero]; (first | fail); simp only [Act.put, List.setIfInBounds_toArray, List.set_cons_succ, List.set_cons_zero, hd1, hd2]) | (guard_target =~ wpTreeC _ _ _ (Tr.q _ _) _ _ _; first | (refine treeC_quiet ⟨_, H, by repeat first | exact .here | apply Suf.there⟩ rfl rfl rfl (fun K hK => ?_); simp only [List.getElem_toArray, List.getElem_cons_succ, List.getElem_cons_zero]; first | (guard_target =~ Oper.quiet _ (Oper.mk _ (.load _ _) _ _ _ _) _ _ _; (refine q_loadNC (row := ?_) rfl rfl ?_ ?_ ?_ (hK _ ?_); rotate_left 1; (repeat first | exact .head _ | apply List.Mem.tail); (focus (intro _; simp [hd1, hd2]; done)); (focus (intro _; simp [hd1, hd2]; done))); clear hK K; simp only [Act.put, List.setIfInBounds_toArray, List.set_cons_succ, List.set_cons_zero, hd1, hd2]) | (go_big_quiet_op; (try refine ⟨_, fun _ _ => rfl, ?_⟩); refine hK _ ?_; clear hK K)) | (refine treeC_call (v := ?_) ⟨_, H, by repeat first | exact .here | apply Suf.there⟩ rfl rfl (fun w3 H K hK => ?_) ?_; rotate_left 1; (focus (simp only [List.getElem_toArray, List.getElem_cons_succ, List.getElem_cons_zero]; first | (go_big_op; first | exact hK _ (Ext.refl _) | (go_at_call 36; (with_reducible refine (hfw _).mono ?_); rintro e w3 ⟨rfl, hb⟩; dsimp only; first | exact hK _ hb | exact hK _ (Ext.refl _)) | (go_at_call 35; (with_reducible refine (awake21_any _).mono ?_); rintro e w3 ⟨rfl, hb⟩; dsimp only; first | exact hK _ hb | exact hK _ (Ext.refl _)) | (go_at_call 38; (with_reducible refine (plain21_any _ _ _ _ _ _ _).mono ?_); rintro e w3 ⟨rfl, hb⟩; dsimp only; first | exact hK _ hb | exact hK _ (Ext.refl _)) | (go_at_call 39; (with_reducible refine (hord _ _ (by first | fail) (by first | fail)).mono ?_); rintro e w3 ⟨B9, k9, c9, os, rfl, hk9, hpm, H2⟩; dsimp only; first | exact hK _ hb | exact hK _ (Ext.refl _)) | (go_at_call 39; (with_reducible refine (hord2 _ _ (by first | fail) (by first | fail)).mono ?_); rintro e w3 ⟨B8, k8, c8, ot, rfl, hk8, hpn, H2⟩; dsimp only; first | exact hK _ hb | exact hK _ (Ext.refl _)) | (go_at_call 37; (with_reducible refine (hbld _ _ _ _ _ HPM.out HK9.out (by first | fail) (by first | fail) (by first | fail)).mono ?_); rintro e w3 ⟨X, bx, ks, ke, cn, cp, dn, dp, rfl, hI, H2⟩; dsimp only; first | exact hK _ hb | exact hK _ (Ext.refl _)) | (go_at_call 37; (with_reducible refine (hbld _ _ _ _ _ HPN.out HK8.out (by first | fail) (by first | fail) (by first | fail)).mono ?_); rintro e w3 ⟨Y, bw, ks2, ke2, cn2, cp2, dn2, dp2, rfl, hJ, H2⟩; dsimp only; first | exact hK _ hb | exact hK _ (Ext.refl _))))); simp only [List.getElem_toArray, List.getElem_cons_succ, List.getElem_cons_zero, Act.put, List.setIfInBounds_toArray, List.set_cons_succ, List.set_cons_zero, hd1, hd2]) | (refine treeC_skip ⟨_, H, by repeat first | exact .here | apply Suf.there⟩ rfl rfl ?_; simp only [List.getElem_toArray, List.getElem_cons_succ, List.getElem_cons_zero, Act.put, List.setIfInBounds_toArray, List.set_cons_succ, List.set_cons_zero, hd1, hd2])) | (guard_target =~ wpTreeC _ _ _ (Tr.both _ _) _ _ _; refine treeC_both ?_ ?_) | (guard_target =~ wpTreeC _ _ _ (Tr.e _ _) _ _ _; first | (refine treeC_one H rfl rfl (fun w3 H2 K hK => ?_); clear H; (try clear w2); (revert w3; intro w2 H); simp only [List.getElem_toArray, List.getElem_cons_succ, List.getElem_cons_zero]; first | ((first | fail); simp only [Act.put, List.setIfInBounds_toArray, List.set_cons_succ, List.set_cons_zero, hd1, hd2]) | (go_big_op; (skip))) | (refine treeC_one_skip (fun w3 hx => ⟨_, H.ext hx, by repeat first | exact .here | apply Suf.there⟩) rfl rfl (fun w3 hx => ?_); replace H := H.ext hx; clear hx; (try clear w2); revert w3; intro w2 H; simp only [List.getElem_toArray, List.getElem_cons_succ, List.getElem_cons_zero, Act.put, List.setIfInBounds_toArray, List.set_cons_succ, List.set_cons_zero, hd1, hd2])) | (guard_target =~ wpTreeC _ _ _ Tr.nil _ _ _; refine treeC_nil H (fun w3 H2 => ?_); clear H; (try clear w2); revert w3; intro w2 H)))
    replace H : Own w.heap.size w _ [IX bw ks2 ke2 cn2 cp2 dn2 dp2 Y, IX bx ks ke cn cp dn dp X, .cells b2 [.int .i64 px, .int .i64 py], .cells b1 [.slice A n c, .slice A2 m c2], .rd A2 b9 o9 (eR es), .rd A b0 o0 (vR vs)] := (H.sub (by repeat first | exact List.Sublist.refl _ | apply List.Sublist.cons_cons | apply List.Sublist.cons))
    have hos := perm_len HPM.out HM.out hl2
    have hot := perm_len HPN.out HM.out hl2
    clear hord hord2 hbld hfw hd1 hd2
    have tk0 : True := trivial
    have tk1 : True := trivial
    go_upto_region 9 with (first
      | (go_at_call 41; (replace H:Own _ _ _ (IX bx _ _ _ _ _ _ _ :: _) := H.front1); (with_reducible refine (xfindK HR.out HI.out hos px py H).mono ?_); rintro e w3 ⟨s1, s2, f, rfl, hF, H2⟩; replace H := H2; clear H2; have HF := Lib.hid hF; clear hF; dsimp only; (skip))
      | (go_at_call 41; (replace H:Own _ _ _ (IX bw _ _ _ _ _ _ _ :: _) := H.front2); (with_reducible refine (xfindK HR.out HJ.out hot px py H).mono ?_); rintro e w3 ⟨t1, t2, g, rfl, hG, H2⟩; replace H := H2; clear H2; have HG := Lib.hid hG; clear hG; dsimp only; (skip))
      | (guard_target =~ wpList _ _ _ (_ :: _) _ _; (first | (guard_target =~ wpList _ _ _ (Oper.mk _ (.load _ _) _ _ _ _ :: _) _ _; refine BigFrame.wpList_want rfl (fun K hK => ?_); (refine o_loadNC (row := ?_) rfl rfl H ?_ ?_ ?_ (hK _ _ ?_); rotate_left 1; (repeat first | exact .head _ | apply List.Mem.tail); (focus (intro _; simp; done)); (focus (intro _; simp; done))); clear hK K) | (guard_target =~ wpList _ _ _ (Oper.mk _ (.store _ _ _) _ _ _ _ :: _) _ _; refine BigFrame.wpList_want rfl (fun K hK => ?_); refine o_store (l' := ?_) (row := ?_) rfl rfl H rfl ?_ ?_ ?_ ?_ (fun w3 H2 => hK _ _ ?_); rotate_left 2; (exact r0); (focus (intro _; simp [Act.eval, Value.cells]; done)); (focus (simp [Act.eval, Value.cells]; done)); (exact rfl); clear hK K; clear H; (try clear w2); revert w3; intro w2 H; simp [Act.eval, Value.cells, setL, List.getD] at H) | ((guard_target =~ wpList _ _ _ (Oper.mk _ (.alloc _) _ _ _ _ :: _) _ _; refine BigFrame.wpList_want rfl (fun K hK => ?_); refine o_alloc (z := ?_) rfl ?_ H rfl (fun w3 b2 he H2 => hK _ _ ?_); rotate_left 1; (focus (intro _; simp; with_reducible exact rfl))); clear hK K he; clear H; (try clear w2); revert w3; intro w2 H; simp [Act.eval, Value.cells, setL, List.getD] at H; (first | (clear tk0; rename Nat => b3) | (clear tk1; rename Nat => b4)))); simp only [Act.put, List.setIfInBounds_toArray, List.set_cons_succ, List.set_cons_zero]))
    obtain ⟨e1, e2, e3⟩ := FindP.same HR.out HI.out HJ.out (two_same HR.out HPM.out HPN.out HI.out HJ.out) HF.out HG.out
    subst e1 e2 e3
    clear HF HG
    go_wp2_with (first
      | (go_at_call 37; (with_reducible refine (build_nil (es := es) HR.out A n c HN.out (by omega) _ (by exact H.giveRd0 m7)).mono ?_); rintro e w3 ⟨Z, bz, ku, kv, cn3, cp3, dn3, dp3, rfl, hK, H2⟩; replace H := H.join H2 rfl; clear H2; simp only [List.cons_append, List.nil_append] at H; have HZ := Lib.hid hK; clear hK; dsimp only; (skip))
      | (guard_target =~ wpList _ _ _ (_ :: _) _ _; (guard_target =~ wpList _ _ _ (Oper.mk _ (.load _ _) _ _ _ _ :: _) _ _; refine BigFrame.wpList_want rfl (fun K hK => ?_); (refine o_loadC (v := ?_) (row := ?_) rfl rfl H ?_ ?_ ?_ (hK _ _ ?_); rotate_left 2; (repeat first | exact .head _ | apply List.Mem.tail); (exact rfl); (focus (intro _; simp; done))); clear hK K); simp only [Act.put, List.setIfInBounds_toArray, List.set_cons_succ, List.set_cons_zero]))
    go_loopg [19] m (fun k i wr => k ≤ m ∧ i = .int .i64 ((m - k : Nat) : Int) ∧ ∃ Z cn3 cp3 dn3 dp3, PutsR (oneL vs es (m - k)) Z ∧ Own w.heap.size w wr [IX bz ku kv cn3 cp3 dn3 dp3 Z, .cells b4 [.int .i64 s1, .int .i64 s2], IX bw ks2 ke2 cn2 cp2 dn2 dp2 Y, .cells b3 [.int .i64 s1, .int .i64 s2], IX bx ks ke cn cp dn dp X, .cells b2 [.int .i64 px, .int .i64 py], .cells b1 [.slice A n c, .slice A2 m c2], .rd A2 b9 o9 (eR es), .rd A b0 o0 (vR vs)])
    case atStart => exact ⟨Nat.le_refl _, by simp, Z, cn3, cp3, dn3, dp3, by rw [Nat.sub_self]; exact HZ.out, H⟩
    case round =>
      clear H HZ Z cn3 cp3 dn3 dp3
      obtain ⟨hk, rfl, Z, cn3, cp3, dn3, dp3, hz, H⟩ := hrel
      by_cases hlt : 0 < gk
      · obtain ⟨j, hj⟩ : ∃ j, m - gk = j := ⟨_, rfl⟩
        have hjl : j < m := by omega
        rw [hj] at hz ⊢
        obtain ⟨i, x, y, he⟩ := eg_at es (by have := HM.out; omega : j < es.length)
        obtain rfl := H.rdAddr m7 (eR_pos he)
        have hp := at_eid (A := some ⟨b9, o9, none⟩) (b := b9) (off := o9) he
        have hjc : j + 1 ≤ c2 := by omega
        have hadd := fun {l : List Res} w4 H h1 h2 => addK (l := l) (w := w4) (B := w.heap.size) (w0 := w) (bx := bz) (ks := ku) (ke := kv) (cn := cn3) (cp := cp3) (dn := dn3) (dp := dp3) (A := A) (A2 := some ⟨b9, o9, none⟩) (n := n) (m := m) (c := c) (c2 := c2) (F := F0) HR.out he hz HN.out HM.out (by omega) hl2 hc2 hcc H h1 h2
        have HJ := Lib.hid hj
        clear he hj hz
        go_wp2_with (first
          | (guard_target =~ Code.wp _ (Code.region 13 _ true) _ _ _; refine region_treeC 13 1 (G := True) (.q 0 (.q 1 (.q 2 (.q 3 (.q 4 (.q 5 (.q 6 (.q 7 (.q 8 (.q 9 (.q 10 (.q 11 (.q 12 (.q 13 (.q 14 (.e 15 (.q 16 .nil))))))))))))))))) (by kernel_rfl) (by intro c a d v w h; cases d <;> first | exact h | exact hQ h) (by kernel_rfl) H ⟨trivial⟩ (fun _ w3 H2 => ?_); (clear H; (try clear w2); revert w3; intro w2 H); simp only [List.drop_succ_cons, List.drop_zero])
          | (go_at_call 44; (with_reducible refine (hadd _ H (by exact H.giveRd m8 f0) (by exact H.giveRd m7 f9)).mono ?_); rintro e w3 ⟨rfl, Z2, dn4, dp4, cn4, cp4, hZ2, H2⟩; replace H := H2; clear H2; have HZ2 := Lib.hid hZ2; clear hZ2; dsimp only; (refine hK _ _ ⟨_, H, by repeat first | exact .here | apply Suf.there⟩ ?_; clear hK K; (try simp only [Act.put, List.setIfInBounds_toArray, List.set_cons_succ, List.set_cons_zero])))
          | (guard_target =~ wpList _ _ _ (_ :: _) _ _; (guard_target =~ wpList _ _ _ (Oper.mk _ (.load _ _) _ _ _ _ :: _) _ _; refine BigFrame.wpList_want rfl (fun K hK => ?_); (refine o_loadC (v := ?_) (row := ?_) rfl rfl H ?_ ?_ ?_ (hK _ _ ?_); rotate_left 2; (repeat first | exact .head _ | apply List.Mem.tail); (exact rfl); (focus (intro _; simp; done))); clear hK K); simp only [Act.put, List.setIfInBounds_toArray, List.set_cons_succ, List.set_cons_zero])
          | (guard_target =~ wpTreeC _ _ _ _ _ _ _; first | (guard_target =~ wpTreeC _ _ _ (Tr.e _ Tr.nil) _ _ _; refine treeC_last (by decide +kernel) H rfl rfl (fun w3 H2 K hK => ?_); clear H; (try clear w2); (revert w3; intro w2 H); simp only [List.getElem_toArray, List.getElem_cons_succ, List.getElem_cons_zero]; (first | fail); simp only [Act.put, List.setIfInBounds_toArray, List.set_cons_succ, List.set_cons_zero]) | (guard_target =~ wpTreeC _ _ _ (Tr.q _ _) _ _ _; first | (refine treeC_quiet ⟨_, H, by repeat first | exact .here | apply Suf.there⟩ rfl rfl rfl (fun K hK => ?_); simp only [List.getElem_toArray, List.getElem_cons_succ, List.getElem_cons_zero]; first | (guard_target =~ Oper.quiet _ (Oper.mk _ (.load _ _) _ _ _ _) _ _ _; (first | (refine q_load (v := ?_) (r := ?_) rfl rfl ?_ ?_ ?_ (hK _ ?_); rotate_left 2; (with_reducible assumption); (repeat first | exact .head _ | apply List.Mem.tail); (focus (intro _; simp; done))) | (refine q_loadC (v := ?_) (row := ?_) rfl rfl ?_ ?_ ?_ (hK _ ?_); rotate_left 2; (repeat first | exact .head _ | apply List.Mem.tail); (exact rfl); (focus (intro _; simp; done)))); clear hK K; simp only [Act.put, List.setIfInBounds_toArray, List.set_cons_succ, List.set_cons_zero]) | (go_big_quiet_op; (try refine ⟨_, fun _ _ => rfl, ?_⟩); refine hK _ ?_; clear hK K)) | (refine treeC_call (v := ?_) ⟨_, H, by repeat first | exact .here | apply Suf.there⟩ rfl rfl (fun w3 H K hK => ?_) ?_; rotate_left 1; (focus (simp only [List.getElem_toArray, List.getElem_cons_succ, List.getElem_cons_zero]; first | (go_big_op; first | exact hK _ (Ext.refl _) | (go_at_call 44; (with_reducible refine (hadd _ H (by first | fail) (by first | fail)).mono ?_); rintro e w3 ⟨rfl, Z2, dn4, dp4, cn4, cp4, hZ2, H2⟩; dsimp only; first | exact hK _ hb | exact hK _ (Ext.refl _))))); simp only [List.getElem_toArray, List.getElem_cons_succ, List.getElem_cons_zero, Act.put, List.setIfInBounds_toArray, List.set_cons_succ, List.set_cons_zero]) | (refine treeC_skip ⟨_, H, by repeat first | exact .here | apply Suf.there⟩ rfl rfl ?_; simp only [List.getElem_toArray, List.getElem_cons_succ, List.getElem_cons_zero, Act.put, List.setIfInBounds_toArray, List.set_cons_succ, List.set_cons_zero])) | (guard_target =~ wpTreeC _ _ _ (Tr.both _ _) _ _ _; refine treeC_both ?_ ?_) | (guard_target =~ wpTreeC _ _ _ (Tr.e _ _) _ _ _; first | (refine treeC_one H rfl rfl (fun w3 H2 K hK => ?_); clear H; (try clear w2); (revert w3; intro w2 H); simp only [List.getElem_toArray, List.getElem_cons_succ, List.getElem_cons_zero]; first | ((first | fail); simp only [Act.put, List.setIfInBounds_toArray, List.set_cons_succ, List.set_cons_zero]) | (go_big_op; (skip))) | (refine treeC_one_skip (fun w3 hx => ⟨_, H.ext hx, by repeat first | exact .here | apply Suf.there⟩) rfl rfl (fun w3 hx => ?_); replace H := H.ext hx; clear hx; (try clear w2); revert w3; intro w2 H; simp only [List.getElem_toArray, List.getElem_cons_succ, List.getElem_cons_zero, Act.put, List.setIfInBounds_toArray, List.set_cons_succ, List.set_cons_zero])) | (guard_target =~ wpTreeC _ _ _ Tr.nil _ _ _; refine treeC_nil H (fun w3 H2 => ?_); clear H; (try clear w2); revert w3; intro w2 H)))
        go_roundg (gk - 1)
        case rel =>
          have e := show m - (gk - 1) = j + 1 by have := HJ.out; omega
          exact ⟨by omega, by rw [e]; simp, Z2, cn4, cp4, dn4, dp4, by rw [e]; exact HZ2.out, (H.sub (by repeat first | exact List.Sublist.refl _ | apply List.Sublist.cons_cons | apply List.Sublist.cons))⟩
        case measure => omega
      · obtain rfl : gk = 0 := by omega
        rw [Nat.sub_zero, HM.out] at hz
        have hzl : (((Z.S.length : Nat) : Int) == (m : Int)) = true := by
          have h1 : Z.S = oneL vs es es.length := hz.S_
          rw [h1, oneL_len vs es (Nat.le_refl _), HM.out]; simp
        have hzP := one_sizes hz (Nat.le_refl _) (by have := HM.out; omega)
        have HZ := Lib.hid hz
        have hg := eqSp_guard
        have hq := fun w => eqSp_eql s1 s2 s1 s2 w
        simp only [decide_true, Bool.and_self] at hq
        have h7n := fun k L (h : k = List.length L) (a : AllP X.P L) => all_len HI.out hos h a
        clear hz
        go_wp2_with (first
          | (guard_target =~ Code.wp _ (Code.region 15 _ true) _ _ _; refine region_treeC0 15 (G := True) (.q 0 (.q 1 (.q 2 (.q 3 (.q 4 (.q 5 (.q 6 (.q 7 (.q 8 (.q 9 (.q 11 (.e 10 (.e 12 (.e 13 (.q 14 (.q 15 (.q 16 (.q 18 (.e 17 (.e 19 (.e 20 (.q 21 (.q 22 (.q 23 (.q 25 (.q 26 (.q 27 (.e 24 (.q 28 (.q 29 (.q 30 .nil))))))))))))))))))))))))))))))) (by kernel_rfl) (by intro c a d v w h; cases d <;> first | exact h | exact hQ h) (by kernel_rfl) H ⟨trivial⟩ (fun _ w3 H2 => ?_); (clear H; (try clear w2); revert w3; intro w2 H))
          | (go_at_call 40; (with_reducible refine (tallM (X := X) (bld_sizes HI.out hos).1 H (by first | exact m4 | exact m6)).mono ?_); rintro e w3 ⟨A7, k7, c7, L7, rfl, hk7, hA7, H2⟩; replace H := H2; clear H2; have HK7 := Lib.hid hk7; have HA7 := Lib.hid hA7; clear hk7 hA7; dsimp only; (refine hK _ _ ⟨_, H, by repeat first | exact .here | apply Suf.there⟩ ?_; clear hK K; (try simp only [Act.put, List.setIfInBounds_toArray, List.set_cons_succ, List.set_cons_zero, hq, hzl])))
          | (go_at_call 40; (with_reducible refine (tallM (X := Y) (bld_sizes HJ.out hot).1 H (by exact m3)).mono ?_); rintro e w3 ⟨A8, k8, c8, L8, rfl, hk8, hA8, H2⟩; replace H := H2; clear H2; obtain rfl := two_all HR.out HPM.out HPN.out HI.out HJ.out HA7.out hA8; obtain rfl := HK7.out.trans hk8.symm; clear hk8 hA8; dsimp only; (refine hK _ _ ⟨_, H, by repeat first | exact .here | apply Suf.there⟩ ?_; clear hK K; (try simp only [Act.put, List.setIfInBounds_toArray, List.set_cons_succ, List.set_cons_zero, hq, hzl])))
          | (go_at_call 40; (with_reducible refine (tallM (X := Z) hzP H (by exact m3)).mono ?_); rintro e w3 ⟨A8, k8, c8, L8, rfl, hk8, hA8, H2⟩; replace H := H2; clear H2; obtain rfl := one_same HR.out HPM.out HI.out HZ.out HA7.out hA8; obtain rfl := HK7.out.trans hk8.symm; clear hk8 hA8; dsimp only; (refine hK _ _ ⟨_, H, by repeat first | exact .here | apply Suf.there⟩ ?_; clear hK K; (try simp only [Act.put, List.setIfInBounds_toArray, List.set_cons_succ, List.set_cons_zero, hq, hzl])))
          | (go_at_call 45; (with_reducible refine (same21_any _ _ _ _ _ _ (fun _ => False) _ HK7.out (by exact H.slGrow m1) (by exact H.slGrow m0) (h7n _ _ HK7.out HA7.out)).mono ?_); rintro e w3 ⟨rfl, hb⟩; replace H := H.ext hb; clear hb; dsimp only; (refine hK _ _ ⟨_, H, by repeat first | exact .here | apply Suf.there⟩ ?_; clear hK K; (try simp only [Act.put, List.setIfInBounds_toArray, List.set_cons_succ, List.set_cons_zero, hq, hzl])))
          | (go_at_call 46; (with_reducible refine (lenM (X := Z) H (by exact m4)).mono ?_); rintro e w3 ⟨rfl, H2⟩; replace H := H2; clear H2; dsimp only; (refine hK _ _ ⟨_, H, by repeat first | exact .here | apply Suf.there⟩ ?_; clear hK K; (try simp only [Act.put, List.setIfInBounds_toArray, List.set_cons_succ, List.set_cons_zero, hq, hzl])))
          | (guard_target =~ wpList _ _ _ (_ :: _) _ _; (guard_target =~ wpList _ _ _ (Oper.mk _ (.load _ _) _ _ _ _ :: _) _ _; refine BigFrame.wpList_want rfl (fun K hK => ?_); (refine o_loadC (v := ?_) (row := ?_) rfl rfl H ?_ ?_ ?_ (hK _ _ ?_); rotate_left 2; (repeat first | exact .head _ | apply List.Mem.tail); (exact rfl); (focus (intro _; simp [hq, hzl]; done))); clear hK K); simp only [Act.put, List.setIfInBounds_toArray, List.set_cons_succ, List.set_cons_zero, hq, hzl])
          | (guard_target =~ wpTreeC _ _ _ _ _ _ _; first | (guard_target =~ wpTreeC _ _ _ (Tr.e _ Tr.nil) _ _ _; refine treeC_last (by decide +kernel) H rfl rfl (fun w3 H2 K hK => ?_); clear H; (try clear w2); (revert w3; intro w2 H); simp only [List.getElem_toArray, List.getElem_cons_succ, List.getElem_cons_zero]; (first | fail); simp only [Act.put, List.setIfInBounds_toArray, List.set_cons_succ, List.set_cons_zero, hq, hzl]) | (guard_target =~ wpTreeC _ _ _ (Tr.q _ _) _ _ _; first | (refine treeC_quiet ⟨_, H, by repeat first | exact .here | apply Suf.there⟩ rfl rfl rfl (fun K hK => ?_); simp only [List.getElem_toArray, List.getElem_cons_succ, List.getElem_cons_zero]; first | (guard_target =~ Oper.quiet _ (Oper.mk _ (.load _ _) _ _ _ _) _ _ _; (first | (refine q_loadC (v := ?_) (row := ?_) rfl rfl ?_ ?_ ?_ (hK _ ?_); rotate_left 2; (repeat first | exact .head _ | apply List.Mem.tail); (exact rfl); (focus (intro _; simp [hq, hzl]; done))) | (refine q_loadNC (row := ?_) rfl rfl ?_ ?_ ?_ (hK _ ?_); rotate_left 1; (repeat first | exact .head _ | apply List.Mem.tail); (focus (intro _; simp [hq, hzl]; done)); (focus (intro _; simp [hq, hzl]; done)))); clear hK K; simp only [Act.put, List.setIfInBounds_toArray, List.set_cons_succ, List.set_cons_zero, hq, hzl]) | (go_big_quiet_op; (try refine ⟨_, fun _ _ => rfl, ?_⟩); refine hK _ ?_; clear hK K)) | (refine treeC_call (v := ?_) ⟨_, H, by repeat first | exact .here | apply Suf.there⟩ rfl rfl (fun w3 H K hK => ?_) ?_; rotate_left 1; (focus (simp only [List.getElem_toArray, List.getElem_cons_succ, List.getElem_cons_zero]; first | (go_big_op; first | exact hK _ (Ext.refl _) | (go_at_call 40; (with_reducible refine (tallM (X := X) (bld_sizes HI.out hos).1 H (by first | fail)).mono ?_); rintro e w3 ⟨A7, k7, c7, L7, rfl, hk7, hA7, H2⟩; dsimp only; first | exact hK _ hb | exact hK _ (Ext.refl _)) | (go_at_call 40; (with_reducible refine (tallM (X := Y) (bld_sizes HJ.out hot).1 H (by first | fail)).mono ?_); rintro e w3 ⟨A8, k8, c8, L8, rfl, hk8, hA8, H2⟩; dsimp only; first | exact hK _ hb | exact hK _ (Ext.refl _)) | (go_at_call 40; (with_reducible refine (tallM (X := Z) hzP H (by first | fail)).mono ?_); rintro e w3 ⟨A8, k8, c8, L8, rfl, hk8, hA8, H2⟩; dsimp only; first | exact hK _ hb | exact hK _ (Ext.refl _)) | (go_at_call 45; (with_reducible refine (same21_any _ _ _ _ _ _ (fun _ => False) _ HK7.out (by first | fail) (by first | fail) (h7n _ _ HK7.out HA7.out)).mono ?_); rintro e w3 ⟨rfl, hb⟩; dsimp only; first | exact hK _ hb | exact hK _ (Ext.refl _)) | (go_at_call 46; (with_reducible refine (lenM (X := Z) H (by first | fail)).mono ?_); rintro e w3 ⟨rfl, H2⟩; dsimp only; first | exact hK _ hb | exact hK _ (Ext.refl _))))); simp only [List.getElem_toArray, List.getElem_cons_succ, List.getElem_cons_zero, Act.put, List.setIfInBounds_toArray, List.set_cons_succ, List.set_cons_zero, hq, hzl]) | (refine treeC_skip ⟨_, H, by repeat first | exact .here | apply Suf.there⟩ rfl rfl ?_; simp only [List.getElem_toArray, List.getElem_cons_succ, List.getElem_cons_zero, Act.put, List.setIfInBounds_toArray, List.set_cons_succ, List.set_cons_zero, hq, hzl])) | (guard_target =~ wpTreeC _ _ _ (Tr.both _ _) _ _ _; refine treeC_both ?_ ?_) | (guard_target =~ wpTreeC _ _ _ (Tr.e _ _) _ _ _; first | (refine treeC_one H rfl rfl (fun w3 H2 K hK => ?_); clear H; (try clear w2); (revert w3; intro w2 H); simp only [List.getElem_toArray, List.getElem_cons_succ, List.getElem_cons_zero]; first | ((first | fail); simp only [Act.put, List.setIfInBounds_toArray, List.set_cons_succ, List.set_cons_zero, hq, hzl]) | (go_big_op; (skip))) | (refine treeC_one_skip (fun w3 hx => ⟨_, H.ext hx, by repeat first | exact .here | apply Suf.there⟩) rfl rfl (fun w3 hx => ?_); replace H := H.ext hx; clear hx; (try clear w2); revert w3; intro w2 H; simp only [List.getElem_toArray, List.getElem_cons_succ, List.getElem_cons_zero, Act.put, List.setIfInBounds_toArray, List.set_cons_succ, List.set_cons_zero, hq, hzl])) | (guard_target =~ wpTreeC _ _ _ Tr.nil _ _ _; refine treeC_nil H (fun w3 H2 => ?_); clear H; (try clear w2); revert w3; intro w2 H)))
        exact bodyPost_ret (v := .bool true) (by simp [results, Try.results10]) rfl ⟨rfl, H.below⟩
end Go.Proofs.Ytlhmjhildlnokaa

/-
  Two closed facts of a seat's program.
-/
namespace Go.Proofs.Ytlhmjhildlnokaa
theorem Try.own0 : ownKnob Try.prog.godebug = none := by kernel_rfl
theorem Try.laidOut : laidOutB Try.prog = true := by kernel_rfl
end Go.Proofs.Ytlhmjhildlnokaa

/-
  An argument that is a slice of whole numbers.
-/
namespace Go.Proofs.Ytlhmjhildlnokaa
set_option linter.unusedVariables false
set_option linter.constructorNameAsVariable false
open Go.RowKit Go.WideShapes Go.ChangeShapes
section
variable {H : Type} {enc : TypeId × Value → H} {P : Program} {w : World} {base : Nat} {spare : Nat → Bool} {held : Bool}
/-- A slice of integers of one kind: its cells, each within that kind. -/
theorem open_nums {r : Reach} {b0 : Nat} {t e : TypeId} {k : IntKind} {v : Value} {d : DataW H} {p : List MemPlace} (ht : P.underlying t = some (.slice e)) (he : P.underlying e = some (.int k)) (hc : P.cellsOf e = 1)
    (hv : Value.okWide P w r b0 t v) (h : DataW.Trod enc P w base spare held t v d p) :
    ∃ (A : Option Addr) (cap : Nat) (L : List Int), v = .slice A L.length cap ∧ L.length ≤ cap ∧ cap ≤ maxLen ∧ (∀ n ∈ L, (Lit.int k n).wf = true) ∧ Sl (fun _ => False) w A (L.map (Value.int k)) := by
  obtain ⟨a0, len0, cap0, rfl⟩ := okWide_slice ht hv
  obtain ⟨fuel, hf⟩ := h
  rcases DataW.trod_slice ht hf with ⟨hcs, _⟩ | ⟨a, len, cap, elems, rest, n', _, hcs, _, hb, hl, hm, hlen, hel, _⟩
  · simp [Value.cells] at hcs
    obtain ⟨rfl, rfl, rfl⟩ := hcs
    exact ⟨none, 0, [], rfl, Nat.le_refl _, Nat.zero_le _, by simp, row_sl (Row.nil_ _ _)⟩
  · simp [Value.cells] at hcs
    obtain ⟨rfl, rfl, rfl⟩ := hcs
    have each : ∀ i, i < len0 → ∃ n : Int, (Lit.int k n).wf = true ∧ w.cell? (a.add i) = some (.int k n) := by
      intro i hi
      have h1 := hel i hi
      have h2 : elems[i]? = some elems[i] := List.getElem?_eq_getElem (by omega)
      rw [h2, Option.bind_eq_some_iff] at h1
      obtain ⟨cs', h3, h4⟩ := h1
      obtain ⟨n, rfl, _, hw⟩ := DataW.trod_int he h4
      refine ⟨n, hw, ?_⟩
      have h5 := World.cells?_some h3
      rw [hc] at h5
      have := h5.2.2 0 (by omega)
      simp only [Nat.mul_one] at this
      rw [show (a.add i).add 0 = a.add i by rw [add_add, Nat.add_zero]] at this
      simpa using this
    have choose : ∀ q, q ≤ len0 → ∃ L : List Int, L.length = q ∧ (∀ n ∈ L, (Lit.int k n).wf = true) ∧ ∀ i n, L[i]? = some n → w.cell? (a.add i) = some (.int k n) := by
      intro q
      induction q with
      | zero => exact fun _ => ⟨[], rfl, by simp, by simp⟩
      | succ q ih =>
        intro hk
        obtain ⟨L, h1, h2, h3⟩ := ih (by omega)
        obtain ⟨v, h4, h5⟩ := each q (by omega)
        refine ⟨L ++ [v], by simp [h1], fun u hu => ?_, fun i u hi => ?_⟩
        · rcases List.mem_append.1 hu with hu | hu
          · exact h2 u hu
          · obtain rfl := List.mem_singleton.1 hu; exact h4
        · rw [List.getElem?_append] at hi
          split at hi
          · exact h3 i u hi
          · rename_i hik
            have : i - L.length = 0 := by
              by_cases h0 : i - L.length = 0
              · exact h0
              · rw [List.getElem?_eq_none (by simp; omega)] at hi; cases hi
            rw [this] at hi
            obtain rfl : v = u := by simpa using hi
            obtain rfl : i = q := by omega
            exact h5
    obtain ⟨L, h1, h2, h3⟩ := choose len0 (Nat.le_refl _)
    refine ⟨some a, cap0, L, by rw [h1], by omega, hm, h2, row_sl (Row.of_cells fun j v hv => ?_)⟩
    rw [List.getElem?_map] at hv
    obtain ⟨n, h4, rfl⟩ := Option.map_eq_some_iff.1 hv
    exact h3 j n h4
end
end Go.Proofs.Ytlhmjhildlnokaa

/-
  An argument that is an array of four integers. Nothing of the program stands here.
-/
namespace Go.Proofs.Ytlhmjhildlnokaa
set_option linter.unusedVariables false
open Go.RowKit Go.WideShapes Go.ChangeShapes
section
variable {H : Type} {enc : TypeId × Value → H} {P : Program} {w : World} {base : Nat} {spare : Nat → Bool} {held : Bool}
theorem open_arr4 {r : Reach} {b0 : Nat} {t e : TypeId} {q : IntKind} {v : Value} {d : DataW H} {p : List MemPlace} (hu : P.underlying t = some (.array 4 e)) (he : P.underlying e = some (.int q)) (hc : P.cellsOf e = 1) (hC : P.cellsOf t = 4)
    (hv : Value.okWide P w r b0 t v) (h : DataW.Trod enc P w base spare held t v d p) :
    ∃ a b c x : Int, v = .agg #[.int q a, .int q b, .int q c, .int q x] ∧ (Lit.int q a).wf = true ∧ (Lit.int q b).wf = true ∧ (Lit.int q c).wf = true ∧ (Lit.int q x).wf = true := by
  simp only [Value.okWide, hu] at hv
  obtain ⟨cs, rfl, hsz, _⟩ := hv
  rw [hC] at hsz
  obtain ⟨c0, c1, c2, c3, rfl⟩ : ∃ c0 c1 c2 c3, cs = #[c0, c1, c2, c3] := by
    obtain ⟨l⟩ := cs
    match l, hsz with
    | [c0, c1, c2, c3], _ => exact ⟨c0, c1, c2, c3, rfl⟩
  obtain ⟨fuel, hf⟩ := h
  cases fuel with
  | zero => simp [DataW.trod] at hf
  | succ m =>
    rw [DataW.trod_step] at hf
    unfold DataW.trodStep at hf
    simp only [hu, Value.cells] at hf
    rw [if_pos (by rw [hC]; rfl), hc] at hf
    simp only [Option.map_eq_some_iff] at hf
    obtain ⟨ys, hy, _⟩ := hf
    have hr : List.range 4 = [0, 1, 2, 3] := rfl
    rw [hr] at hy
    simp only [List.mapM_cons, bind, Option.bind_eq_some_iff] at hy
    obtain ⟨y0, h0, _, ⟨y1, h1, _, ⟨y2, h2, _, ⟨y3, h3, _⟩, _⟩, _⟩, _⟩ := hy
    obtain ⟨a, ea, _, wa⟩ := DataW.trod_int he h0
    obtain ⟨b, eb, _, wb⟩ := DataW.trod_int he h1
    obtain ⟨c, ec, _, wc⟩ := DataW.trod_int he h2
    obtain ⟨x, ex, _, wx⟩ := DataW.trod_int he h3
    simp at ea eb ec ex
    subst ea eb ec ex
    exact ⟨a, b, c, x, rfl, wa, wb, wc, wx⟩
end
end Go.Proofs.Ytlhmjhildlnokaa

/-
  The statement TrapOrder, proved: for every input the law answers true, and each argument reads behind the call as it did. No condition.
-/
namespace Go.Proofs.Ytlhmjhildlnokaa
namespace trapOrder
open Go.ChangeShapes Go.WideShapes Go.ChangeAt Go.RowKit
open Go.ChangeMaps (open_string)
set_option maxRecDepth 100000 in
theorem lifted (os : Os) (started : os.Started) (H : Type) (enc : TypeId × Value → H) :
    ReturnsInHanded {} Try.checked os 10 .any (Rows.trapOrderSpec.pre6 enc Try.prog Try.f10 Rows.trapOrderRow.domain false) (Rows.trapOrderSpec.post enc Try.prog Try.f10 false true false false) := by
  refine returnsInHanded_of_change (C := Try.checked) Try.own0 started (by kernel_rfl) Try.func10
    (ChangeSpec.witness6 (enc := enc) (C := Try.checked) false ⟨#[], #[.agg #[.slice none 0 0, .slice none 0 0], .slice none 0 0, .slice none 0 0, .agg #[.int .i64 0, .int .i64 0]], []⟩ 8 (by kernel_rfl) (by kernel_rfl) (by kernel_rfl) (by kernel_rfl)) ?_
  intro W base args ds gs before hval0 hW _ _
  have hval : ∀ (j : Nat) t v, Try.f10.params[j]? = some t → args[j]? = some v → Value.okWide Try.prog W .any base t v := hval0
  refine law_calls Try.laidOut (by kernel_rfl) rfl rfl Try.underlying4 (fun ds h => by match ds, h with | [_, _, _, _], _ => rfl) hW ?_
  obtain ⟨p, q, hA0, _, _, _, _⟩ := hW
  have hA : DataW.TrodAll enc Try.prog W 0 (fun _ => true) true Try.f10.params.toList args.toList ds p := hA0
  rw [Try.params10] at hA hval
  obtain ⟨v0, vs0, d0, ds0, p0, q0, hargs, rfl, rfl, h0, r0⟩ := trodAll_cons hA
  obtain ⟨v1, vs1, d1, ds1, p1, q1, rfl, rfl, rfl, h1, r1⟩ := trodAll_cons r0
  obtain ⟨v2, vs2, d2, ds2, p2, q2, rfl, rfl, rfl, h2, r2⟩ := trodAll_cons r1
  obtain ⟨v3, vs3, d3, ds3, p3, q3, rfl, rfl, rfl, h3, r3⟩ := trodAll_cons r2
  obtain ⟨rfl, rfl, rfl⟩ := trodAll_nil r3
  obtain rfl : args = #[v0, v1, v2, v3] := by cases args; simp_all
  obtain ⟨A0, B0, c0, e0, vs0_, es0_, rfl, pl0⟩ := open_plan (hval 0 25 v0 rfl rfl) h0
  obtain ⟨A1, c1, L1, rfl, lb1, lc1, lw1, ls1⟩ := open_nums (e := 5) (by kernel_rfl) (by kernel_rfl) (by kernel_rfl) (hval 1 60 v1 rfl rfl) h1
  obtain ⟨A2, c2, L2, rfl, lb2, lc2, lw2, ls2⟩ := open_nums (e := 5) (by kernel_rfl) (by kernel_rfl) (by kernel_rfl) (hval 2 60 v2 rfl rfl) h2
  obtain ⟨px3, py3, rfl, _, _⟩ := open_pt (hval 3 47 v3 rfl rfl) h3
  exact law_TrapOrder A0 B0 c0 e0 vs0_ es0_ A1 c1 L1 A2 c2 L2 px3 py3 W pl0 ls1 lw1 ls2 lw2
set_option maxRecDepth 100000 in
set_option maxHeartbeats 4000000 in
theorem closed : joinedFacts Try.pinned.checked.prog 10 Try.f10 Rows.trapOrderSpec Rows.trapOrderRow = true := by
  have key : ∀ P : Program, P = Try.pinned.checked.prog → joinedFacts P 10 Try.f10 Rows.trapOrderSpec Rows.trapOrderRow = true := by
    intro P hP
    unfold joinedFacts
    simp only [Bool.and_eq_true]
    repeat' apply And.intro
    all_goals first
      | (guard_target =~ Program.mayEnter _ = true; rw [hP]; exact may_enter)
      | (guard_target =~ (_ == Program.liftsFinal _) = true; rw [hP, lifts_final]; rfl)
      | (guard_target =~ (Program.make _ == _) = true; rw [hP, make_cut]; rfl)
      | (rw [hP]; as_aux_lemma => kernel_rfl)
      | (as_aux_lemma => kernel_rfl)
  exact key _ rfl
theorem over : Rows.trapOrderRow.holds Try.pinned (OpenSpec.ofChange Rows.trapOrderSpec) :=
  OpenClaim.holds_of_wide 10 Try.f10 rfl rfl rfl rfl rfl rfl rfl ⟨rfl, rfl, rfl, rfl, rfl⟩ rfl rfl rfl rfl rfl (by kernel_rfl) Try.func10 closed
    (of_decide_eq_true (by kernel_rfl)) (by unfold Func.isWrapper; first | (rw [if_pos (by decide +kernel)]; kernel_rfl) | (rw [if_neg (by decide +kernel)]; exact ⟨rfl, rfl⟩))
    (fun os started H enc _ => lifted os started H enc)
theorem proved : Rows.TrapOrderSaid :=
  over
end trapOrder
end Go.Proofs.Ytlhmjhildlnokaa
