/-
  The walk of the document's Next.
-/
import Derived.Test.YtlhmjhildlnokaaSpin12
import Derived.Test.YtlhmjhildlnokaaOwn7
import Derived.Test.YtlhmjhildlnokaaPlan7
import Derived.Test.YtlhmjhildlnokaaBase
import Derived.Test.YtlhmjhildlnokaaPlan0
import Derived.ChangeArms
import Derived.Test.YtlhmjhildlnokaaSpin9
import Derived.Test.YtlhmjhildlnokaaChecked
import Derived.Test.YtlhmjhildlnokaaSigns
namespace Go.Proofs.Ytlhmjhildlnokaa
set_option linter.unusedVariables false
set_option linter.unusedSimpArgs false
open Go.RowKit

theorem outZ_len (vs : List Vt) (es : List Eg) (v : Int) : (outZ vs es v).length ≤ (halves es).length := (outF_at vs es v (halves es) (fun _ h => h)).2
set_option maxRecDepth 100000 in
set_option maxHeartbeats 16000000 in
theorem rnext_any (vs : List Vt) (es : List Eg) (A A2 : Option Addr) (n m c c2 : Nat) (F : Nat → Prop) (e0 : Int) (b0' : Bool) (w : World) (hR0 : RightP vs es) (hn : n = vs.length) (hm : m = es.length) (hs : Sl F w A (vR vs)) (hs2 : Sl F w A2 (eR es)) (hF : ∀ k, F k → k < w.heap.size) (hh : (⟨e0, b0'⟩ : Hf) ∈ halves es) :
    Calls Try.prog 31 #[.agg #[.slice A n c, .slice A2 m c2], .agg #[.int .i64 e0, .bool b0']] w fun e w' => e = .returned (hV (nextZ vs es ⟨e0, b0'⟩)) ∧ Below w.heap.size w w' := by
  obtain ⟨b0, o0, H1, f0⟩ := (Own.start w).addSl (hs.ro (by rfl))
  obtain ⟨b9, o9, H, f9⟩ := H1.addSl (hs2.ro (by rfl))
  clear hs hs2 H1
  have h1 := fun F w h1 h2 hF => rout_any vs es A A2 n m c c2 F (toZ es ⟨e0, b0'⟩) w hR0 hn hm h1 h2 hF
  have hf1 := fun F w h1 => fromR_any hR0 A A2 n m c c2 F e0 (!b0') (toZ es ⟨e0, b0'⟩) w hm h1 (twin_mem hh) rfl
  have hq := eqH_eql
  have hg := eqH_guard
  obtain ⟨nh, hnx⟩ : ∃ nh, nextZ vs es ⟨e0, b0'⟩ = nh := ⟨_, rfl⟩
  obtain ⟨ne, nb⟩ := nh
  have hnd := outZ_nodup hR0 (toZ es ⟨e0, b0'⟩)
  have htw := twin_out hR0 hh
  have hpr : ∀ i : Nat, (outZ vs es (toZ es ⟨e0, b0'⟩))[i]? = some ⟨e0, !b0'⟩ → (outZ vs es (toZ es ⟨e0, b0'⟩))[(i + (outZ vs es (toZ es ⟨e0, b0'⟩)).length - 1) % (outZ vs es (toZ es ⟨e0, b0'⟩)).length]? = some ⟨ne, nb⟩ := fun i hi => by
    have h1 := prevC_at hnd hi
    have h2 : prevC (outZ vs es (toZ es ⟨e0, b0'⟩)) ⟨e0, !b0'⟩ = ⟨ne, nb⟩ := hnx
    rw [h2] at h1
    have hl : 0 < (outZ vs es (toZ es ⟨e0, b0'⟩)).length := Nat.lt_of_le_of_lt (Nat.zero_le _) (List.getElem?_eq_some_iff.1 hi).1
    rw [List.getElem?_eq_getElem (Nat.mod_lt _ hl)] at h1 ⊢
    exact congrArg some h1.symm
  have hll : (outZ vs es (toZ es ⟨e0, b0'⟩)).length ≤ 2048 := Nat.le_trans (outZ_len _ _ _) (few_halves hR0)
  rw [hnx]
  generalize toZ es ⟨e0, b0'⟩ = z at h1 hf1 hpr htw hll
  generalize outZ vs es z = L at h1 hpr htw hll
  have HPR := Lib.hid hpr
  have HTW := Lib.hid htw
  have HF := Lib.hid hF
  clear hn hm hR0 hF hnx hnd hpr htw hh
  go_enter Try.func31, Try.ntmps31
  have tk0 : True := trivial
  have tk1 : True := trivial
  have tk2 : True := trivial
  go_wp2_with (first
    | (go_at_call 24; (with_reducible refine (h1 _ _ (by exact H.giveRd m4 f0) (by exact H.giveRd m3 f9) (H.fw_lt rfl HF.out)).mono ?_); rintro e w3 ⟨A3, c3, rfl, hb, s3, q3, q4⟩; replace H := H.ext hb; clear hb; obtain ⟨b3, o3, H4, f3⟩ := H.addSl s3; clear H s3; have H := H4; clear H4; dsimp only; (refine hK _ _ ⟨_, H, by repeat first | exact .here | apply Suf.there⟩ ?_; clear hK K; (try simp only [Act.put, List.setIfInBounds_toArray, List.set_cons_succ, List.set_cons_zero])))
    | (guard_target =~ Code.wp _ (Code.region 1 _ true) _ _ _; refine region_treeC0 1 (G := True) (.q 0 (.q 1 (.q 2 (.q 3 (.q 4 (.e 5 (.q 6 .nil))))))) (by kernel_rfl) (by intro c a d v w h; cases d <;> exact h) (by kernel_rfl) H ⟨trivial⟩ (fun _ w3 H2 => ?_); (clear H; (try clear w2); revert w3; intro w2 H))
    | (guard_target =~ wpList _ _ _ (_ :: _) _ _; ((first | (guard_target =~ wpList _ _ _ (Oper.mk _ (.alloc _) _ _ _ _ :: _) _ _; refine BigFrame.wpList_want rfl (fun K hK => ?_); refine o_alloc (z := ?_) rfl ?_ H rfl (fun w3 b2 he H2 => hK _ _ ?_); rotate_left 1; (focus (intro _; simp; with_reducible exact rfl))) | (guard_target =~ wpList _ _ _ (Oper.mk _ (.box _ _) _ _ _ _ :: _) _ _; refine BigFrame.wpList_want rfl (fun K hK => ?_); refine o_box rfl H rfl (fun w3 b2 he H2 => hK _ _ ?_))); clear hK K he; clear H; (try clear w2); revert w3; intro w2 H; simp [Act.eval, Value.cells, setL, List.getD] at H; (first | (clear tk0; rename Nat => b1) | (clear tk1; rename Nat => b2) | (clear tk2; rename Nat => b4))); simp only [Act.put, List.setIfInBounds_toArray, List.set_cons_succ, List.set_cons_zero])
    | (guard_target =~ wpTreeC _ _ _ _ _ _ _; first | (guard_target =~ wpTreeC _ _ _ (Tr.e _ Tr.nil) _ _ _; refine treeC_last (by decide +kernel) H rfl rfl (fun w3 H2 K hK => ?_); clear H; (try clear w2); (revert w3; intro w2 H); simp only [List.getElem_toArray, List.getElem_cons_succ, List.getElem_cons_zero]; (first | fail); simp only [Act.put, List.setIfInBounds_toArray, List.set_cons_succ, List.set_cons_zero]) | (guard_target =~ wpTreeC _ _ _ (Tr.q _ _) _ _ _; first | (refine treeC_quiet ⟨_, H, by repeat first | exact .here | apply Suf.there⟩ rfl rfl rfl (fun K hK => ?_); simp only [List.getElem_toArray, List.getElem_cons_succ, List.getElem_cons_zero]; first | (guard_target =~ Oper.quiet _ (Oper.mk _ (.load _ _) _ _ _ _) _ _ _; (refine q_loadNC (row := ?_) rfl rfl ?_ ?_ ?_ (hK _ ?_); rotate_left 1; (repeat first | exact .head _ | apply List.Mem.tail); (focus (intro _; simp; done)); (focus (intro _; simp; done))); clear hK K; simp only [Act.put, List.setIfInBounds_toArray, List.set_cons_succ, List.set_cons_zero]) | (go_big_quiet_op; (try refine ⟨_, fun _ _ => rfl, ?_⟩); refine hK _ ?_; clear hK K)) | (refine treeC_call (v := ?_) ⟨_, H, by repeat first | exact .here | apply Suf.there⟩ rfl rfl (fun w3 H K hK => ?_) ?_; rotate_left 1; (focus (simp only [List.getElem_toArray, List.getElem_cons_succ, List.getElem_cons_zero]; first | (go_big_op; first | exact hK _ (Ext.refl _) | (go_at_call 20; (with_reducible refine (rtwin_any _ _ _).mono ?_); rintro e w3 ⟨rfl, hb⟩; dsimp only; first | exact hK _ hb | exact hK _ (Ext.refl _)) | (go_at_call 32; (with_reducible refine (hf1 _ _ (by exact H.giveRd m3 f9)).mono ?_); rintro e w3 ⟨rfl, hb⟩; dsimp only; first | exact hK _ hb | exact hK _ (Ext.refl _)) | (go_at_call 24; (with_reducible refine (h1 _ _ (by first | fail) (by first | fail) (H.fw_lt rfl HF.out)).mono ?_); rintro e w3 ⟨A3, c3, rfl, hb, s3, q3, q4⟩; dsimp only; first | exact hK _ hb | exact hK _ (Ext.refl _))))); simp only [List.getElem_toArray, List.getElem_cons_succ, List.getElem_cons_zero, Act.put, List.setIfInBounds_toArray, List.set_cons_succ, List.set_cons_zero]) | (refine treeC_skip ⟨_, H, by repeat first | exact .here | apply Suf.there⟩ rfl rfl ?_; simp only [List.getElem_toArray, List.getElem_cons_succ, List.getElem_cons_zero, Act.put, List.setIfInBounds_toArray, List.set_cons_succ, List.set_cons_zero])) | (guard_target =~ wpTreeC _ _ _ (Tr.both _ _) _ _ _; refine treeC_both ?_ ?_) | (guard_target =~ wpTreeC _ _ _ (Tr.e _ _) _ _ _; first | (refine treeC_one H rfl rfl (fun w3 H2 K hK => ?_); clear H; (try clear w2); (revert w3; intro w2 H); simp only [List.getElem_toArray, List.getElem_cons_succ, List.getElem_cons_zero]; first | ((first | fail); simp only [Act.put, List.setIfInBounds_toArray, List.set_cons_succ, List.set_cons_zero]) | (go_big_op; (skip))) | (refine treeC_one_skip (fun w3 hx => ⟨_, H.ext hx, by repeat first | exact .here | apply Suf.there⟩) rfl rfl (fun w3 hx => ?_); replace H := H.ext hx; clear hx; (try clear w2); revert w3; intro w2 H; simp only [List.getElem_toArray, List.getElem_cons_succ, List.getElem_cons_zero, Act.put, List.setIfInBounds_toArray, List.set_cons_succ, List.set_cons_zero])) | (guard_target =~ wpTreeC _ _ _ Tr.nil _ _ _; refine treeC_nil H (fun w3 H2 => ?_); clear H; (try clear w2); revert w3; intro w2 H)))
  generalize hN : L.length = n2 at hll ⊢
  have HN := Lib.hid hN
  go_loopg [6] n2 (fun k i wr => k ≤ n2 ∧ i = .int .i64 ((n2 - k : Nat) : Int) ∧ (⟨e0, !b0'⟩ : Hf) ∉ L.take (n2 - k) ∧ Own w.heap.size w wr [.rd A3 b3 o3 (hR L), .cells b4 [.int .i64 0, .bool false], .cells b2 [.int .i64 e0, .bool b0'], .cells b1 [.slice A n c, .slice A2 m c2], .rd A2 b9 o9 (eR es), .rd A b0 o0 (vR vs)])
  case atStart => exact ⟨Nat.le_refl _, by simp, by simp, H⟩
  case round =>
    clear H
    obtain ⟨hk, rfl, hno, H⟩ := hrel
    have HNO := Lib.hid hno
    clear hno
    by_cases hlt : 0 < gk
    · obtain ⟨j, hj⟩ : ∃ j, n2 - gk = j := ⟨_, rfl⟩
      have hjl : j < n2 := by omega
      rw [hj] at HNO ⊢
      obtain ⟨f, d, he⟩ := hf_get (by omega : j < L.length)
      obtain rfl := H.rdAddr m0 (hR_pos (by omega : j < L.length))
      have hp := h_at (A := some ⟨b3, o3, none⟩) (bb := b3) (off := o3) he
      have HJ := Lib.hid hj
      have HE := Lib.hid he
      clear hj he hN
      by_cases hd : (⟨f, d⟩ : Hf) = ⟨e0, !b0'⟩
      · have hq2 : (decide (f = e0) && decide (d = !b0')) = true := (hf_eq ⟨f, d⟩ ⟨e0, !b0'⟩).trans (decide_eq_true hd)
        have hx := HPR.out j (by rw [← hd]; exact HE.out)
        have HD := Lib.hid hd
        clear hd
        rw [HN.out] at hx
        by_cases hj0 : j = 0
        · subst hj0
          obtain ⟨p, rfl⟩ : ∃ p, n2 = p + 1 := ⟨n2 - 1, by omega⟩
          rw [show (0 + (p + 1) - 1) % (p + 1) = p by rw [show 0 + (p + 1) - 1 = p by omega]; exact Nat.mod_eq_of_lt (by omega)] at hx
          have hp2 := h_at (A := some ⟨b3, o3, none⟩) (bb := b3) (off := o3) hx
          clear hx
          rw [Nat.zero_mul, Nat.add_zero] at hp
          have hz0 : ((0 : Int) == 0) = true := rfl
          have hz1 : ((p + 1 : Nat) : Int) - 1 = (p : Int) := by omega
          go_wp2_with (first
            | (guard_target =~ Code.wp _ (Code.region 5 _ true) _ _ _; refine region_treeC0 5 (G := True) (.q 0 (.q 1 (.q 2 (.q 3 (.q 4 (.q 5 (.q 6 .nil))))))) (by kernel_rfl) (by intro c a d v w h; cases d <;> exact h) (by kernel_rfl) H ⟨trivial⟩ (fun _ w3 H2 => ?_); (clear H; (try clear w2); revert w3; intro w2 H))
            | (guard_target =~ wpList _ _ _ (_ :: _) _ _; (first | (guard_target =~ wpList _ _ _ (Oper.mk _ (.load _ _) _ _ _ _ :: _) _ _; refine BigFrame.wpList_want rfl (fun K hK => ?_); (refine o_loadN (cs := ?_) (r := ?_) rfl rfl H ?_ ?_ ?_ ?_ (hK _ _ ?_); rotate_left 2; (with_reducible assumption); (repeat first | exact .head _ | apply List.Mem.tail); (focus (intro _; simp [hq2]; done)); (focus (intro _; simp [hq2]; done))); clear hK K) | (guard_target =~ wpList _ _ _ (Oper.mk _ (.store _ _ _) _ _ _ _ :: _) _ _; refine BigFrame.wpList_want rfl (fun K hK => ?_); refine o_store (l' := ?_) (row := ?_) rfl rfl H rfl ?_ ?_ ?_ ?_ (fun w3 H2 => hK _ _ ?_); rotate_left 2; (exact r1); (focus (intro _; (simp [Act.eval, Value.cells, List.getD, hq2]; done))); (focus (simp [Act.eval, Value.cells, List.getD, hq2]; done)); (exact rfl); clear hK K; clear H; (try clear w2); revert w3; intro w2 H; (try simp [Act.eval, List.getD, hq2] at H); (try simp [Value.cells, setL, hq2] at H))); simp only [Act.put, List.setIfInBounds_toArray, List.set_cons_succ, List.set_cons_zero, hq2])
            | (guard_target =~ wpTreeC _ _ _ _ _ _ _; first | (guard_target =~ wpTreeC _ _ _ (Tr.e _ Tr.nil) _ _ _; refine treeC_last (by decide +kernel) H rfl rfl (fun w3 H2 K hK => ?_); clear H; (try clear w2); (revert w3; intro w2 H); simp only [List.getElem_toArray, List.getElem_cons_succ, List.getElem_cons_zero]; (first | fail); simp only [Act.put, List.setIfInBounds_toArray, List.set_cons_succ, List.set_cons_zero, hq2]) | (guard_target =~ wpTreeC _ _ _ (Tr.q _ _) _ _ _; first | (refine treeC_quiet ⟨_, H, by repeat first | exact .here | apply Suf.there⟩ rfl rfl rfl (fun K hK => ?_); simp only [List.getElem_toArray, List.getElem_cons_succ, List.getElem_cons_zero]; first | (guard_target =~ Oper.quiet _ (Oper.mk _ (.load _ _) _ _ _ _) _ _ _; (first | (refine q_loadN (cs := ?_) (r := ?_) rfl rfl ?_ ?_ ?_ ?_ (hK _ ?_); rotate_left 2; (with_reducible assumption); (repeat first | exact .head _ | apply List.Mem.tail); (focus (intro _; simp [hq2]; done)); (focus (intro _; simp [hq2]; done))) | (refine q_loadNC (row := ?_) rfl rfl ?_ ?_ ?_ (hK _ ?_); rotate_left 1; (repeat first | exact .head _ | apply List.Mem.tail); (focus (intro _; simp [hq2]; done)); (focus (intro _; simp [hq2]; done)))); clear hK K; simp only [Act.put, List.setIfInBounds_toArray, List.set_cons_succ, List.set_cons_zero, hq2]) | (go_big_quiet_op; (try refine ⟨_, fun _ _ => rfl, ?_⟩); refine hK _ ?_; clear hK K)) | (refine treeC_call (v := ?_) ⟨_, H, by repeat first | exact .here | apply Suf.there⟩ rfl rfl (fun w3 H K hK => ?_) ?_; rotate_left 1; (focus (simp only [List.getElem_toArray, List.getElem_cons_succ, List.getElem_cons_zero]; first | (go_big_op; first | exact hK _ (Ext.refl _) | (go_at_call 20; (with_reducible refine (rtwin_any _ _ _).mono ?_); rintro e w3 ⟨rfl, hb⟩; dsimp only; first | exact hK _ hb | exact hK _ (Ext.refl _))))); simp only [List.getElem_toArray, List.getElem_cons_succ, List.getElem_cons_zero, Act.put, List.setIfInBounds_toArray, List.set_cons_succ, List.set_cons_zero, hq2]) | (refine treeC_skip ⟨_, H, by repeat first | exact .here | apply Suf.there⟩ rfl rfl ?_; simp only [List.getElem_toArray, List.getElem_cons_succ, List.getElem_cons_zero, Act.put, List.setIfInBounds_toArray, List.set_cons_succ, List.set_cons_zero, hq2])) | (guard_target =~ wpTreeC _ _ _ (Tr.both _ _) _ _ _; refine treeC_both ?_ ?_) | (guard_target =~ wpTreeC _ _ _ (Tr.e _ _) _ _ _; first | (refine treeC_one H rfl rfl (fun w3 H2 K hK => ?_); clear H; (try clear w2); (revert w3; intro w2 H); simp only [List.getElem_toArray, List.getElem_cons_succ, List.getElem_cons_zero]; first | ((first | fail); simp only [Act.put, List.setIfInBounds_toArray, List.set_cons_succ, List.set_cons_zero, hq2]) | (go_big_op; (first | fail))) | (refine treeC_one_skip (fun w3 hx => ⟨_, H.ext hx, by repeat first | exact .here | apply Suf.there⟩) rfl rfl (fun w3 hx => ?_); replace H := H.ext hx; clear hx; (try clear w2); revert w3; intro w2 H; simp only [List.getElem_toArray, List.getElem_cons_succ, List.getElem_cons_zero, Act.put, List.setIfInBounds_toArray, List.set_cons_succ, List.set_cons_zero, hq2])) | (guard_target =~ wpTreeC _ _ _ Tr.nil _ _ _; refine treeC_nil H (fun w3 H2 => ?_); clear H; (try clear w2); revert w3; intro w2 H)))
          have hr := H.loadVarN (P := Try.prog) (ty := 36) (b := b4) m1 (by simp) (by simp)
          exact bodyPost_ret (v := hV ⟨ne, nb⟩) (by simp [results, Try.results31, asAddr, hr]) rfl ⟨rfl, H.below⟩
        · obtain ⟨p, rfl⟩ : ∃ p, j = p + 1 := ⟨j - 1, by omega⟩
          rw [show (p + 1 + n2 - 1) % n2 = p by rw [show p + 1 + n2 - 1 = p + n2 by omega, Nat.add_mod_right]; exact Nat.mod_eq_of_lt (by omega)] at hx
          have hp2 := h_at (A := some ⟨b3, o3, none⟩) (bb := b3) (off := o3) hx
          clear hx
          have hz0 : (((p + 1 : Nat) : Int) == 0) = false := by simpa using (by omega : ¬ ((p : Int) + 1 = 0))
          have hz1 : ((p + 1 : Nat) : Int) - 1 = (p : Int) := by omega
          go_wp2_with (first
            | (guard_target =~ Code.wp _ (Code.region 5 _ true) _ _ _; refine region_treeC0 5 (G := True) (.q 0 (.q 1 (.q 2 (.q 3 (.q 4 (.q 5 (.q 6 .nil))))))) (by kernel_rfl) (by intro c a d v w h; cases d <;> exact h) (by kernel_rfl) H ⟨trivial⟩ (fun _ w3 H2 => ?_); (clear H; (try clear w2); revert w3; intro w2 H))
            | (guard_target =~ wpList _ _ _ (_ :: _) _ _; (first | (guard_target =~ wpList _ _ _ (Oper.mk _ (.load _ _) _ _ _ _ :: _) _ _; refine BigFrame.wpList_want rfl (fun K hK => ?_); (refine o_loadN (cs := ?_) (r := ?_) rfl rfl H ?_ ?_ ?_ ?_ (hK _ _ ?_); rotate_left 2; (with_reducible assumption); (repeat first | exact .head _ | apply List.Mem.tail); (focus (intro _; simp [hq2]; done)); (focus (intro _; simp [hq2]; done))); clear hK K) | (guard_target =~ wpList _ _ _ (Oper.mk _ (.store _ _ _) _ _ _ _ :: _) _ _; refine BigFrame.wpList_want rfl (fun K hK => ?_); refine o_store (l' := ?_) (row := ?_) rfl rfl H rfl ?_ ?_ ?_ ?_ (fun w3 H2 => hK _ _ ?_); rotate_left 2; (exact r1); (focus (intro _; (simp [Act.eval, Value.cells, List.getD, hq2]; done))); (focus (simp [Act.eval, Value.cells, List.getD, hq2]; done)); (exact rfl); clear hK K; clear H; (try clear w2); revert w3; intro w2 H; (try simp [Act.eval, List.getD, hq2] at H); (try simp [Value.cells, setL, hq2] at H))); simp only [Act.put, List.setIfInBounds_toArray, List.set_cons_succ, List.set_cons_zero, hq2])
            | (guard_target =~ wpTreeC _ _ _ _ _ _ _; first | (guard_target =~ wpTreeC _ _ _ (Tr.e _ Tr.nil) _ _ _; refine treeC_last (by decide +kernel) H rfl rfl (fun w3 H2 K hK => ?_); clear H; (try clear w2); (revert w3; intro w2 H); simp only [List.getElem_toArray, List.getElem_cons_succ, List.getElem_cons_zero]; (first | fail); simp only [Act.put, List.setIfInBounds_toArray, List.set_cons_succ, List.set_cons_zero, hq2]) | (guard_target =~ wpTreeC _ _ _ (Tr.q _ _) _ _ _; first | (refine treeC_quiet ⟨_, H, by repeat first | exact .here | apply Suf.there⟩ rfl rfl rfl (fun K hK => ?_); simp only [List.getElem_toArray, List.getElem_cons_succ, List.getElem_cons_zero]; first | (guard_target =~ Oper.quiet _ (Oper.mk _ (.load _ _) _ _ _ _) _ _ _; (first | (refine q_loadN (cs := ?_) (r := ?_) rfl rfl ?_ ?_ ?_ ?_ (hK _ ?_); rotate_left 2; (with_reducible assumption); (repeat first | exact .head _ | apply List.Mem.tail); (focus (intro _; simp [hq2]; done)); (focus (intro _; simp [hq2]; done))) | (refine q_loadNC (row := ?_) rfl rfl ?_ ?_ ?_ (hK _ ?_); rotate_left 1; (repeat first | exact .head _ | apply List.Mem.tail); (focus (intro _; simp [hq2]; done)); (focus (intro _; simp [hq2]; done)))); clear hK K; simp only [Act.put, List.setIfInBounds_toArray, List.set_cons_succ, List.set_cons_zero, hq2]) | (go_big_quiet_op; (try refine ⟨_, fun _ _ => rfl, ?_⟩); refine hK _ ?_; clear hK K)) | (refine treeC_call (v := ?_) ⟨_, H, by repeat first | exact .here | apply Suf.there⟩ rfl rfl (fun w3 H K hK => ?_) ?_; rotate_left 1; (focus (simp only [List.getElem_toArray, List.getElem_cons_succ, List.getElem_cons_zero]; first | (go_big_op; first | exact hK _ (Ext.refl _) | (go_at_call 20; (with_reducible refine (rtwin_any _ _ _).mono ?_); rintro e w3 ⟨rfl, hb⟩; dsimp only; first | exact hK _ hb | exact hK _ (Ext.refl _))))); simp only [List.getElem_toArray, List.getElem_cons_succ, List.getElem_cons_zero, Act.put, List.setIfInBounds_toArray, List.set_cons_succ, List.set_cons_zero, hq2]) | (refine treeC_skip ⟨_, H, by repeat first | exact .here | apply Suf.there⟩ rfl rfl ?_; simp only [List.getElem_toArray, List.getElem_cons_succ, List.getElem_cons_zero, Act.put, List.setIfInBounds_toArray, List.set_cons_succ, List.set_cons_zero, hq2])) | (guard_target =~ wpTreeC _ _ _ (Tr.both _ _) _ _ _; refine treeC_both ?_ ?_) | (guard_target =~ wpTreeC _ _ _ (Tr.e _ _) _ _ _; first | (refine treeC_one H rfl rfl (fun w3 H2 K hK => ?_); clear H; (try clear w2); (revert w3; intro w2 H); simp only [List.getElem_toArray, List.getElem_cons_succ, List.getElem_cons_zero]; first | ((first | fail); simp only [Act.put, List.setIfInBounds_toArray, List.set_cons_succ, List.set_cons_zero, hq2]) | (go_big_op; (first | fail))) | (refine treeC_one_skip (fun w3 hx => ⟨_, H.ext hx, by repeat first | exact .here | apply Suf.there⟩) rfl rfl (fun w3 hx => ?_); replace H := H.ext hx; clear hx; (try clear w2); revert w3; intro w2 H; simp only [List.getElem_toArray, List.getElem_cons_succ, List.getElem_cons_zero, Act.put, List.setIfInBounds_toArray, List.set_cons_succ, List.set_cons_zero, hq2])) | (guard_target =~ wpTreeC _ _ _ Tr.nil _ _ _; refine treeC_nil H (fun w3 H2 => ?_); clear H; (try clear w2); revert w3; intro w2 H)))
          have hr := H.loadVarN (P := Try.prog) (ty := 36) (b := b4) m1 (by simp) (by simp)
          exact bodyPost_ret (v := hV ⟨ne, nb⟩) (by simp [results, Try.results31, asAddr, hr]) rfl ⟨rfl, H.below⟩
      · have hq2 : (decide (f = e0) && decide (d = !b0')) = false := (hf_eq ⟨f, d⟩ ⟨e0, !b0'⟩).trans (decide_eq_false hd)
        have HD := Lib.hid hd
        clear hd
        go_wp2_with (first
          | (guard_target =~ Code.wp _ (Code.region 5 _ true) _ _ _; refine region_treeC0 5 (G := True) (.q 0 (.q 1 (.q 2 (.q 3 (.q 4 (.q 5 (.q 6 .nil))))))) (by kernel_rfl) (by intro c a d v w h; cases d <;> exact h) (by kernel_rfl) H ⟨trivial⟩ (fun _ w3 H2 => ?_); (clear H; (try clear w2); revert w3; intro w2 H))
          | (guard_target =~ wpTreeC _ _ _ _ _ _ _; first | (guard_target =~ wpTreeC _ _ _ (Tr.e _ Tr.nil) _ _ _; refine treeC_last (by decide +kernel) H rfl rfl (fun w3 H2 K hK => ?_); clear H; (try clear w2); (revert w3; intro w2 H); simp only [List.getElem_toArray, List.getElem_cons_succ, List.getElem_cons_zero]; (first | fail); simp only [Act.put, List.setIfInBounds_toArray, List.set_cons_succ, List.set_cons_zero, hq2]) | (guard_target =~ wpTreeC _ _ _ (Tr.q _ _) _ _ _; first | (refine treeC_quiet ⟨_, H, by repeat first | exact .here | apply Suf.there⟩ rfl rfl rfl (fun K hK => ?_); simp only [List.getElem_toArray, List.getElem_cons_succ, List.getElem_cons_zero]; first | (guard_target =~ Oper.quiet _ (Oper.mk _ (.load _ _) _ _ _ _) _ _ _; (first | (refine q_loadN (cs := ?_) (r := ?_) rfl rfl ?_ ?_ ?_ ?_ (hK _ ?_); rotate_left 2; (with_reducible assumption); (repeat first | exact .head _ | apply List.Mem.tail); (focus (intro _; simp [hq2]; done)); (focus (intro _; simp [hq2]; done))) | (refine q_loadNC (row := ?_) rfl rfl ?_ ?_ ?_ (hK _ ?_); rotate_left 1; (repeat first | exact .head _ | apply List.Mem.tail); (focus (intro _; simp [hq2]; done)); (focus (intro _; simp [hq2]; done)))); clear hK K; simp only [Act.put, List.setIfInBounds_toArray, List.set_cons_succ, List.set_cons_zero, hq2]) | (go_big_quiet_op; (try refine ⟨_, fun _ _ => rfl, ?_⟩); refine hK _ ?_; clear hK K)) | (refine treeC_call (v := ?_) ⟨_, H, by repeat first | exact .here | apply Suf.there⟩ rfl rfl (fun w3 H K hK => ?_) ?_; rotate_left 1; (focus (simp only [List.getElem_toArray, List.getElem_cons_succ, List.getElem_cons_zero]; first | (go_big_op; first | exact hK _ (Ext.refl _) | (go_at_call 20; (with_reducible refine (rtwin_any _ _ _).mono ?_); rintro e w3 ⟨rfl, hb⟩; dsimp only; first | exact hK _ hb | exact hK _ (Ext.refl _))))); simp only [List.getElem_toArray, List.getElem_cons_succ, List.getElem_cons_zero, Act.put, List.setIfInBounds_toArray, List.set_cons_succ, List.set_cons_zero, hq2]) | (refine treeC_skip ⟨_, H, by repeat first | exact .here | apply Suf.there⟩ rfl rfl ?_; simp only [List.getElem_toArray, List.getElem_cons_succ, List.getElem_cons_zero, Act.put, List.setIfInBounds_toArray, List.set_cons_succ, List.set_cons_zero, hq2])) | (guard_target =~ wpTreeC _ _ _ (Tr.both _ _) _ _ _; refine treeC_both ?_ ?_) | (guard_target =~ wpTreeC _ _ _ (Tr.e _ _) _ _ _; first | (refine treeC_one H rfl rfl (fun w3 H2 K hK => ?_); clear H; (try clear w2); (revert w3; intro w2 H); simp only [List.getElem_toArray, List.getElem_cons_succ, List.getElem_cons_zero]; first | ((first | fail); simp only [Act.put, List.setIfInBounds_toArray, List.set_cons_succ, List.set_cons_zero, hq2]) | (go_big_op; (first | fail))) | (refine treeC_one_skip (fun w3 hx => ⟨_, H.ext hx, by repeat first | exact .here | apply Suf.there⟩) rfl rfl (fun w3 hx => ?_); replace H := H.ext hx; clear hx; (try clear w2); revert w3; intro w2 H; simp only [List.getElem_toArray, List.getElem_cons_succ, List.getElem_cons_zero, Act.put, List.setIfInBounds_toArray, List.set_cons_succ, List.set_cons_zero, hq2])) | (guard_target =~ wpTreeC _ _ _ Tr.nil _ _ _; refine treeC_nil H (fun w3 H2 => ?_); clear H; (try clear w2); revert w3; intro w2 H)))
        go_roundg (gk - 1)
        case rel => exact ⟨by omega, by have := HJ.out; congr 1; omega, by rw [show n2 - (gk - 1) = j + 1 by have := HJ.out; omega]; exact has_step HE.out HNO.out HD.out, H⟩
        case measure => omega
    · obtain rfl : gk = 0 := by omega
      exact absurd HTW.out (by have := HNO.out; rwa [Nat.sub_zero, List.take_of_length_le (by have := HN.out; omega)] at this)
end Go.Proofs.Ytlhmjhildlnokaa

/-
  Resources: a slice grows by what stands in another slice of the call's own. Nothing of the program stands here.
-/
namespace Go.Proofs.Ytlhmjhildlnokaa
set_option linter.unusedVariables false
open Go.RowKit
variable {P : Program} {B : Nat} {w0 w w' : World} {l l' : List Res} {o : Oper} {a : Act} {Q : Exit → Act → World → Prop}
/-- A slice of the call's own, as it is handed to a function that only reads. -/
theorem Own.slGrow {e size n c : Nat} {A : Option Addr} {xs : List Value} (H : Own B w0 w l) (hm : Res.grow e size (.slice A n c) n xs ∈ l) : Sl (fun _ => False) w A xs := by
  obtain ⟨A', cap, h, _, _, hs⟩ := H.giveGrow hm (F := fun _ => False) (fun _ h => h.elim)
  injection h with h1 h2 h3
  rw [h1]; exact hs
theorem o_appendS {K : Act → World → Prop} {s x' : Operand} {t e : TypeId} {z : Value} {size bytes : Nat} {v : Value} {n m c : Nat} {A : Option Addr} {xs news : List Value} {l' : Value → List Res} (hinfo : (P.info? e).map (fun i => (i.zero, i.size, i.bytes)) = some (some z, size, bytes))
    (ho : o.op = .call { callee := .builtin .append, args := #[s, x'], argTypes := #[t, t] }) (hs : a.eval s = v) (hx : a.eval x' = .slice A m c) (H : Own B w0 w l)
    (hSl : Sl (fun _ => False) w A news) (hl : news.length = m * size)
    (hrep : ∀ v', Rep (.grow e size v n xs) (.grow e size v' (n + m) (xs ++ news)) l (l' v')) (ht : P.underlying t = some (.slice e)) (hzs : z.cells.size = size) (hsz : 0 < size) (h1 : news.all (·.oneCell') = true)
    (h63 : n + m ≤ maxLen) (hbytes : (n + m) * bytes ≤ 140737488355328)
    (hk : ∀ v' w', Own B w0 w' (l' v') → (v' = .slice none 0 0 ↔ v = .slice none 0 0 ∧ m = 0) → K (a.put o.dst v') w') : o.wp P a w K Q := by
  cases hi : P.info? e with
  | none => simp [hi] at hinfo
  | some i =>
    simp only [hi, Option.map_some, Option.some.injEq, Prod.mk.injEq] at hinfo
    obtain ⟨hz, rfl, rfl⟩ := hinfo
    have hg := H.holds _ (hrep v).mem
    have hgl := H.lt _ (hrep v).mem
    obtain ⟨bb, off, hr1, hr2⟩ := hSl
    have hr : (0 < news.length → A = some ⟨bb, off, none⟩) ∧ ∀ j v, news[j]? = some v → w.cell? ⟨bb, off + j, none⟩ = some v := ⟨fun hp => (hr1 hp).1, hr2⟩
    have h1' : ∀ u ∈ news, u.oneCell' = true := fun u hu => List.all_eq_true.1 h1 u hu
    have key : ∃ v' w', (Builtin.append_ #[t, t] o.type #[v, .slice A m c]).run P w = .ok v' w' ∧ w'.ownsRow 0 e i.size v' (n + m) (xs ++ news) ∧ (∀ k, k < w.heap.size → v.ownBlock ≠ some k → w'.heap[k]? = w.heap[k]?) ∧ Below B w w' ∧
        (v' = .slice none 0 0 ↔ v = .slice none 0 0 ∧ m = 0) ∧ ∀ k, v'.ownBlock = some k → v.ownBlock = some k ∨ w.heap.size ≤ k := by
      have hold : ∀ k, v.ownBlock = some k → k < w.heap.size ∧ B ≤ k := fun k hk => ⟨(hgl k hk).1, (hgl k hk).2 rfl⟩
      cases A with
      | none =>
        have h0 : m = 0 := by
          by_cases hp : 0 < news.length
          · have := hr.1 hp; cases this
          · have : m * i.size = 0 := by omega
            rcases Nat.mul_eq_zero.1 this with h | h
            · exact h
            · omega
        subst h0
        have hn : news = [] := List.eq_nil_of_length_eq_zero (by omega)
        subst hn
        refine ⟨v, w, run_append_none ht hi hg c, by rw [Nat.add_zero, List.append_nil]; exact hg, fun _ _ _ => rfl, Below.refl _ _, by simp, fun k hk => .inl hk⟩
      | some ad =>
        have hnews : ∀ j u, news[j]? = some u → w.cell? (ad.add j) = some u := fun j u hu => by
          have hp : 0 < news.length := Nat.lt_of_le_of_lt (Nat.zero_le _) (List.getElem?_eq_some_iff.1 hu).1
          have := hr.1 hp
          injection this with this
          rw [this, Addr.add_mid]
          exact hr.2 j u hu
        obtain ⟨v', w', hrun, hown, hgrow, hnil⟩ := run_append_own (P := P) w 0 t o.type e i z _ _ ht hi hz rfl rfl hzs hsz v n xs hg ad m c news hl hnews h1' h63 hbytes (Nat.zero_le _)
        have hplace := append_place ht hi hz hg hl hnews h1' h63 hbytes hrun
        exact ⟨v', w', hrun, hown, fun k hk hne => hgrow.block k hk (fun e => hne e.symm), (.mk6 hgrow.os hgrow.tape hgrow.output hgrow.size (fun k hk' => hgrow.block k (Nat.lt_of_lt_of_le hk' H.base) (fun e => by have := (hold k e.symm).2; omega)) (append_drawn ht hi hz hg hl hnews h1' h63 hbytes hrun)), hnil, hplace⟩
    obtain ⟨v', w', hrun, hown, hblk, hbel, hnil, hplace⟩ := key
    unfold Oper.wp execOp
    simp only [ho, resolve, invoke, builtin, Sem.run_bind, Sem.run_pure, Result.andThen_ok, List.map_toArray, List.map_cons, List.map_nil, hs, hx, hrun]
    refine hk v' w' ?_ hnil
    exact H.change (hrep v') rfl rfl hbel (fun k hk' hne => hblk k hk' hne) hown (fun k hk' => (hown.lt k hk').2) hplace
end Go.Proofs.Ytlhmjhildlnokaa

/-
  The walk of the document's Rings.
-/
namespace Go.Proofs.Ytlhmjhildlnokaa
set_option linter.unusedVariables false
set_option linter.unusedSimpArgs false
open Go.RowKit

structure KInv (nx : Hf → Hf) (S : List Hf) (h0 : Hf) (r : List Hf) (h : Hf) : Prop where
  way : Way nx S h0 r h
  ring : ringF nx (S.length - r.length) r h = ringF nx S.length [] h0
theorem kinv_step {nx : Hf → Hf} {S : List Hf} (O : OneOne nx S) {h0 h : Hf} {r : List Hf} (I : KInv nx S h0 r h) (hq : r.length < S.length) (hn : h ∉ r) : KInv nx S h0 (r ++ [h]) (nx h) := by
  refine ⟨way_step O I.way hn, ?_⟩
  rw [← I.ring]
  obtain ⟨m, hm⟩ : ∃ m, S.length - r.length = m + 1 := ⟨S.length - r.length - 1, by omega⟩
  rw [hm, show S.length - (r ++ [h]).length = m by rw [List.length_append]; simp; omega]
  conv => rhs; unfold ringF
  rw [if_neg hn]
theorem kinv_end {nx : Hf → Hf} {S : List Hf} {h0 h : Hf} {r : List Hf} (I : KInv nx S h0 r h) (hq : S.length ≤ r.length ∨ h ∈ r) : r = ringF nx S.length [] h0 := by
  rw [← I.ring]
  cases hm : S.length - r.length with
  | zero => rfl
  | succ m =>
    rcases hq with hq | hq
    · omega
    · unfold ringF; rw [if_pos hq]
def RrRel (vs : List Vt) (es : List Eg) (N : Nat) (B : Nat) (w0 : World) (l : List Res) (k : Nat) (i out met : Value) (wr : World) : Prop :=
  ∃ os : List RgE, os.map (·.l) = ringsL (nextZ vs es) (halves es) ((halves es).take (N - k)) [] ∧ k ≤ N ∧ i = .int .i64 ((N - k : Nat) : Int) ∧
    Own B w0 wr (.grow 34 1 out os.length (os.map (·.s)) :: .grow 36 2 met (os.map (·.l)).flatten.length (hR (os.map (·.l)).flatten) :: (l ++ os.map rB))
theorem hR_app (l m : List Hf) : hR (l ++ m) = hR l ++ hR m := by simp [hR]
theorem hR_one (l : List Hf) : (hR l).all (·.oneCell') = true := by
  rw [List.all_eq_true]; intro v hv
  obtain ⟨a, _, ha⟩ := List.mem_flatMap.1 hv
  simp only [h2, List.mem_cons, List.not_mem_nil, or_false] at ha
  rcases ha with rfl | rfl <;> rfl
theorem rr_len {r : List Hf} {X : List Value} {q : Nat} (h1 : hR r = X) (h2 : q = r.length) : X.length = q * 2 := by rw [← h1, hR_len, h2]
theorem rr_one {r : List Hf} {X : List Value} (h1 : hR r = X) : X.all (·.oneCell') = true := by rw [← h1]; exact hR_one r
set_option maxRecDepth 100000 in
set_option maxHeartbeats 16000000 in
theorem rrings_any (vs : List Vt) (es : List Eg) (A A2 : Option Addr) (n m c c2 : Nat) (F : Nat → Prop) (w : World) (hR0 : RightP vs es) (hn : n = vs.length) (hm : m = es.length) (hs : Sl F w A (vR vs)) (hs2 : Sl F w A2 (eR es)) (hF : ∀ k, F k → k < w.heap.size) :
    Calls Try.prog 17 #[.agg #[.slice A n c, .slice A2 m c2]] w (RetR F w (ringsZ vs es)) := by
  obtain ⟨b0, o0, H1, f0⟩ := (Own.start w).addSl (hs.ro (by rfl))
  obtain ⟨b9, o9, H, f9⟩ := H1.addSl (hs2.ro (by rfl))
  clear hs hs2 H1
  have h1 := fun F w h1 hF => halves_any vs es A A2 n m c c2 F w hm h1 hF (by have := hR0.few.2; omega)
  have h2' := fun F w e0 b0' h1 h2 hF hh => rnext_any vs es A A2 n m c c2 F e0 b0' w hR0 hn hm h1 h2 hF hh
  have hfw := few_halves hR0
  have HR := Lib.hid hR0
  have HF := Lib.hid hF
  clear hn hm hR0 hF
  go_enter Try.func17, Try.ntmps17
  have tk0 : True := trivial
  go_wp2_with (first
    | (go_at_call 53; (with_reducible refine (h1 _ _ (by exact H.giveRd m1 f9) (H.fw_lt rfl HF.out)).mono ?_); rintro e w3 ⟨A3, c3, rfl, hb, s3, q3, q4⟩; replace H := H.ext hb; clear hb; obtain ⟨b3, o3, H4, f3⟩ := H.addSl s3; clear H s3; have H := H4; clear H4; dsimp only; (skip))
    | (guard_target =~ wpList _ _ _ (_ :: _) _ _; (first | (guard_target =~ wpList _ _ _ (Oper.mk _ (.load _ _) _ _ _ _ :: _) _ _; refine BigFrame.wpList_want rfl (fun K hK => ?_); (refine o_loadNC (row := ?_) rfl rfl H ?_ ?_ ?_ (hK _ _ ?_); rotate_left 1; (repeat first | exact .head _ | apply List.Mem.tail); (focus (intro _; simp; done)); (focus (intro _; simp; done))); clear hK K) | ((guard_target =~ wpList _ _ _ (Oper.mk _ (.box _ _) _ _ _ _ :: _) _ _; refine BigFrame.wpList_want rfl (fun K hK => ?_); refine o_box rfl H rfl (fun w3 b2 he H2 => hK _ _ ?_)); clear hK K he; clear H; (try clear w2); revert w3; intro w2 H; simp [Act.eval, Value.cells, setL, List.getD] at H; (clear tk0; rename Nat => b1))); simp only [Act.put, List.setIfInBounds_toArray, List.set_cons_succ, List.set_cons_zero]))
  generalize hN : (halves es).length = N at hfw ⊢
  have HN := Lib.hid hN
  clear hN
  have H := ((H.grow_nil 36 2).grow_nil 34 1)
  go_loopg [6, 3, 4] N (RrRel vs es N w.heap.size w [.rd A3 b3 o3 (hR (halves es)), .cells b1 [.slice A n c, .slice A2 m c2], .rd A2 b9 o9 (eR es), .rd A b0 o0 (vR vs)])
  case atStart => exact ⟨[], by rw [Nat.sub_self]; rfl, Nat.le_refl _, by simp, H⟩
  case round =>
    clear H
    obtain ⟨os, hos, hk, rfl, H⟩ := hrel
    simp only [List.cons_append, List.nil_append] at H
    by_cases hlt : 0 < gk
    · obtain ⟨j, hj⟩ : ∃ j, N - gk = j := ⟨_, rfl⟩
      have hjl : j < N := by omega
      rw [hj] at hos ⊢
      obtain ⟨e, b, he⟩ := hf_get (by have := HN.out; omega : j < (halves es).length)
      obtain rfl := H.rdAddr m2 (hR_pos (by have := HN.out; omega : j < (halves es).length))
      have hp := h_at (A := some ⟨b3, o3, none⟩) (bb := b3) (off := o3) he
      have hmem : (⟨e, b⟩ : Hf) ∈ halves es := List.mem_of_getElem? he
      have hRs := rings_of (next_one HR.out) ((halves es).take j) fun h hh => List.mem_of_mem_take hh
      have hst := ringsL_step (nx := nextZ vs es) (S := halves es) ((halves es).take j) ⟨e, b⟩ []
      rw [← hos] at hRs hst
      rw [show (halves es).take j ++ [⟨e, b⟩] = (halves es).take (j + 1) by rw [List.take_add_one, he]; rfl] at hst
      have hfl : (os.map (·.l)).flatten.length ≤ 2048 := by
        have := nodup_len (S := halves es) hRs.nodup fun x hx => by
          obtain ⟨r, hr, hx⟩ := List.mem_flatten.1 hx
          obtain ⟨h, P⟩ := hRs.each r hr
          exact P.sub x hx
        have := HN.out
        omega
      have hol : os.length ≤ 2048 := by have := rings_few hRs; have := HN.out; simp at *; omega
      have HST := Lib.hid hst
      have HMEM := Lib.hid hmem
      have HJ := Lib.hid hj
      have HOM := Lib.hid (rfl : os.length = os.length)
      obtain ⟨Am, cm, rfl⟩ := H.growForm m1
      obtain ⟨vh, hvh⟩ : ∃ v, decide ((⟨e, b⟩ : Hf) ∈ (os.map (·.l)).flatten) = v := ⟨_, rfl⟩
      have hH1 := fun w h => has_any (os.map (·.l)).flatten Am (os.map (·.l)).flatten.length cm (fun _ => False) e b w rfl h (by omega)
      rw [hvh] at hH1
      have HVH := Lib.hid hvh
      clear he hos hst hmem hj hRs HOM hvh
      generalize hol2 : os.length = ol at H hol
      generalize hfl2 : (os.map (·.l)).flatten.length = fn at H hH1 hfl ⊢
      have HOL := Lib.hid hol2
      have HFL := Lib.hid hfl2
      clear hol2 hfl2
      cases vh
      · have ⟨gkA, hgA⟩ : ∃ g, g = gk := ⟨_, rfl⟩
        have tk0 : True := trivial
        go_wp2_with (first
          | (go_at_call 34; (with_reducible refine (hH1 _ (H.slGrow m1)).mono ?_); rintro e w3 ⟨rfl, hb⟩; replace H := H.ext hb; clear hb; dsimp only; (skip))
          | (guard_target =~ wpList _ _ _ (_ :: _) _ _; (first | (guard_target =~ wpList _ _ _ (Oper.mk _ (.load _ _) _ _ _ _ :: _) _ _; refine BigFrame.wpList_want rfl (fun K hK => ?_); (refine o_loadN (cs := ?_) (r := ?_) rfl rfl H ?_ ?_ ?_ ?_ (hK _ _ ?_); rotate_left 2; (with_reducible assumption); (repeat first | exact .head _ | apply List.Mem.tail); (focus (intro _; simp; done)); (focus (intro _; simp; done))); clear hK K) | (guard_target =~ wpList _ _ _ (Oper.mk _ (.store _ _ _) _ _ _ _ :: _) _ _; refine BigFrame.wpList_want rfl (fun K hK => ?_); refine o_store (l' := ?_) (row := ?_) rfl rfl H rfl ?_ ?_ ?_ ?_ (fun w3 H2 => hK _ _ ?_); rotate_left 2; (exact r0); (focus (intro _; simp [Act.eval, Value.cells]; done)); (focus (simp [Act.eval, Value.cells]; done)); (exact rfl); clear hK K; clear H; (try clear w2); revert w3; intro w2 H; simp [Act.eval, Value.cells, setL, List.getD] at H) | ((guard_target =~ wpList _ _ _ (Oper.mk _ (.alloc _) _ _ _ _ :: _) _ _; refine BigFrame.wpList_want rfl (fun K hK => ?_); refine o_alloc (z := ?_) rfl ?_ H rfl (fun w3 b2 he H2 => hK _ _ ?_); rotate_left 1; (focus (intro _; simp; with_reducible exact rfl))); clear hK K he; clear H; (try clear w2); revert w3; intro w2 H; simp [Act.eval, Value.cells, setL, List.getD] at H; (clear tk0; rename Nat => bh))); simp only [Act.put, List.setIfInBounds_toArray, List.set_cons_succ, List.set_cons_zero]))
        clear hH1
        have H := (H.grow_nil 36 2)
        generalize hom : os.map (·.s) = om at H
        have HOM := Lib.hid hom
        generalize hof : (os.map (·.l)).flatten = fl at H
        have HOF := Lib.hid hof
        clear hom hof
        go_loopg [7, 9] N (fun k v i wr => ∃ r h q, q = r.length ∧ q + k = N ∧ KInv (nextZ vs es) (halves es) ⟨e, b⟩ r h ∧ i = .int .i64 (q : Int) ∧ Own w.heap.size w wr (.grow 36 2 v q (hR r) :: .cells bh [.int .i64 h.e, .bool h.b] :: .grow 34 1 u3 ol om :: .grow 36 2 (.slice Am fn cm) fn (hR fl) :: .rd (some ⟨b3, o3, none⟩) b3 o3 (hR (halves es)) :: .cells b1 [.slice A n c, .slice A2 m c2] :: .rd A2 b9 o9 (eR es) :: .rd A b0 o0 (vR vs) :: os.map rB))
        case atStart => exact ⟨[], ⟨e, b⟩, 0, rfl, by omega, ⟨way_start HMEM.out, rfl⟩, by simp, H⟩
        case round =>
          clear H
          obtain ⟨r, ⟨f, d⟩, q, hq, hqk, hI, rfl, H⟩ := hrel
          have HI := Lib.hid hI
          have hqN : q ≤ N := by omega
          have HQ := Lib.hid hq
          have hmm := hI.way.now
          obtain ⟨Ar, cr, rfl⟩ := H.growForm m0
          have hH2 := fun w h => has_any r Ar q cr (fun _ => False) f d w hq h (by omega)
          obtain ⟨v2, hv2⟩ : ∃ v, decide ((⟨f, d⟩ : Hf) ∈ r) = v := ⟨_, rfl⟩
          rw [hv2] at hH2
          have HV2 := Lib.hid hv2
          have hnx := fun F w h1 h2 hF => h2' F w f d h1 h2 hF hmm
          generalize hne : nextZ vs es ⟨f, d⟩ = h' at hnx
          obtain ⟨e', b'⟩ := h'
          have HNE := Lib.hid hne
          generalize hX : hR r = X at H hH2
          have HX := Lib.hid hX
          clear hI hq hmm hv2 hne hX
          by_cases hgo : q < N ∧ v2 = false
          · obtain ⟨hqN2, rfl⟩ := hgo
            have tk0 : True := trivial
            go_wp2_with (first
              | (go_at_call 34; (with_reducible refine (hH2 _ (H.slGrow m0)).mono ?_); rintro e w3 ⟨rfl, hb⟩; replace H := H.ext hb; clear hb; dsimp only; (skip))
              | (go_at_call 31; (with_reducible refine (hnx _ _ (by exact H.giveRd m8 f0) (by exact H.giveRd m7 f9) (H.fw_lt rfl HF.out)).mono ?_); rintro e w3 ⟨rfl, hb⟩; replace H := H.ext hb; clear hb; dsimp only; (skip))
              | (guard_target =~ wpList _ _ _ (_ :: _) _ _; (first | (guard_target =~ wpList _ _ _ (Oper.mk _ (.call { callee := .builtin .append, args := _, argTypes := _ }) _ _ _ _ :: _) _ _; refine BigFrame.wpList_want rfl (fun K hK => ?_); refine o_append (row := ?_) (n := ?_) (xs := ?_) (l' := ?_) infoHf rfl rfl rfl H ?_ rfl ?_ ?_ (by kernel_rfl) rfl (by decide) ?_ ?_ ?_ (fun v2 w3 H2 hn => hK _ _ ?_); rotate_left 4; (repeat first | exact .head _ | apply List.Mem.tail); (focus (simp; done)); (focus (intro _; (exact r1))); exact rfl; exact (by unfold maxLen; omega); exact (by omega); clear hK K hn; clear H; (try clear w2); revert w3; intro w2 H; simp only [List.take_succ_cons, List.take_zero, Nat.one_mul] at H; (obtain ⟨A7, c7, rfl⟩ := H.growForm (v := v2) (by repeat first | exact .head _ | apply List.Mem.tail))) | (guard_target =~ wpList _ _ _ (Oper.mk _ (.load _ _) _ _ _ _ :: _) _ _; refine BigFrame.wpList_want rfl (fun K hK => ?_); (refine o_loadNC (row := ?_) rfl rfl H ?_ ?_ ?_ (hK _ _ ?_); rotate_left 1; (repeat first | exact .head _ | apply List.Mem.tail); (focus (intro _; simp [hV]; done)); (focus (intro _; simp [hV]; done))); clear hK K) | (guard_target =~ wpList _ _ _ (Oper.mk _ (.store _ _ _) _ _ _ _ :: _) _ _; refine BigFrame.wpList_want rfl (fun K hK => ?_); refine o_store (l' := ?_) (row := ?_) rfl rfl H rfl ?_ ?_ ?_ ?_ (fun w3 H2 => hK _ _ ?_); rotate_left 2; (exact r2); (focus (intro _; (simp [Act.eval, Value.cells, List.getD, hV]; done))); (focus (simp [Act.eval, Value.cells, List.getD, hV]; done)); (exact rfl); clear hK K; clear H; (try clear w2); revert w3; intro w2 H; (try simp [Act.eval, List.getD, hV] at H); (try simp [Value.cells, setL, hV] at H)) | ((guard_target =~ wpList _ _ _ (Oper.mk _ (.buildSlice _ _ _) _ _ _ _ :: _) _ _; refine BigFrame.wpList_want rfl (fun K hK => ?_); refine o_buildSlice (C := ?_) (E := ?_) rfl rfl H ?_ rfl (fun w3 b2 he H2 => hK _ _ ?_); rotate_left 2; (focus (intro _; simp [go_sem, Instr.buildSlice]; with_reducible exact rfl))); clear hK K he; clear H; (try clear w2); revert w3; intro w2 H; (try simp [Act.eval, List.getD, hV] at H); (try simp [Value.cells, setL, hV] at H); (clear tk0; rename Nat => b4))); simp only [Act.put, List.setIfInBounds_toArray, List.set_cons_succ, List.set_cons_zero, hV]))
            go_roundg (gk - 1)
            case rel =>
              have hs := kinv_step (next_one HR.out) HI.out (by have := HQ.out; have := HN.out; omega) (by simpa using HV2.out)
              rw [HNE.out] at hs
              refine ⟨r ++ [⟨f, d⟩], ⟨e', b'⟩, q + 1, by rw [HQ.out]; simp, by omega, hs, by simp, ?_⟩
              have H4 := H.tail
              rw [← HX.out, ← hR_add1] at H4
              exact H4
            case measure => omega
          · have hnz : (decide (q < N) && !v2) = false := by
              rw [Bool.and_eq_false_iff]
              by_cases h : q < N
              · right
                cases v2
                · exact absurd ⟨h, rfl⟩ hgo
                · rfl
              · left; simpa using h
            have hend := kinv_end (S := halves es) HI.out (by
              have := HQ.out; have := HN.out
              by_cases h : q < N
              · right
                cases v2
                · exact absurd ⟨h, rfl⟩ hgo
                · simpa using HV2.out
              · left; omega)
            have HEND := Lib.hid hend
            clear hend
            by_cases hqN2 : q < N
            · obtain rfl : v2 = true := by
                cases v2
                · exact absurd ⟨hqN2, rfl⟩ hgo
                · rfl
              clear hgo hnz
              have tk0 : True := trivial
              go_wp2_with (first
                | (go_at_call 34; (with_reducible refine (hH2 _ (H.slGrow m0)).mono ?_); rintro e w3 ⟨rfl, hb⟩; replace H := H.ext hb; clear hb; dsimp only; (skip))
                | (guard_target =~ wpList _ _ _ (_ :: _) _ _; (first | (guard_target =~ wpList _ _ _ (Oper.mk _ (.call { callee := .builtin .append, args := _, argTypes := _ }) _ _ _ _ :: _) _ _; refine BigFrame.wpList_want rfl (fun K hK => ?_); refine o_appendS (news := ?_) (n := ?_) (xs := ?_) (l' := ?_) infoHf rfl rfl rfl H ?_ ?_ ?_ (by kernel_rfl) rfl (by decide) ?_ ?_ ?_ (fun v2 w3 H2 hn => hK _ _ ?_); rotate_left 4; (focus (refine H.slGrow (e := 36) (size := 2) (n := ?_) (c := ?_) ?_; rotate_left 2; (repeat first | exact .head _ | apply List.Mem.tail))); exact (rr_len HX.out HQ.out); (focus (intro _; (exact r3))); exact (rr_one HX.out); exact (by unfold maxLen; omega); exact (by omega); clear hK K hn; clear H; (try clear w2); revert w3; intro w2 H; simp only [List.nil_append, Nat.zero_add] at H; (obtain ⟨A8, c8, rfl⟩ := H.growForm (v := v2) (by repeat first | exact .head _ | apply List.Mem.tail))) | (guard_target =~ wpList _ _ _ (Oper.mk _ (.call { callee := .builtin .append, args := _, argTypes := _ }) _ _ _ _ :: _) _ _; refine BigFrame.wpList_want rfl (fun K hK => ?_); refine o_append (row := ?_) (n := ?_) (xs := ?_) (l' := ?_) infoSl rfl rfl rfl H ?_ rfl ?_ ?_ (by kernel_rfl) rfl (by decide) ?_ ?_ ?_ (fun v2 w3 H2 hn => hK _ _ ?_); rotate_left 4; (repeat first | exact .head _ | apply List.Mem.tail); (focus (simp; done)); (focus (intro _; (exact r3))); exact rfl; exact (by unfold maxLen; omega); exact (by omega); clear hK K hn; clear H; (try clear w2); revert w3; intro w2 H; simp only [List.take_succ_cons, List.take_zero, Nat.one_mul] at H; (obtain ⟨A7, c7, rfl⟩ := H.growForm (v := v2) (by repeat first | exact .head _ | apply List.Mem.tail))) | (guard_target =~ wpList _ _ _ (Oper.mk _ (.load _ _) _ _ _ _ :: _) _ _; refine BigFrame.wpList_want rfl (fun K hK => ?_); (refine o_loadNC (row := ?_) rfl rfl H ?_ ?_ ?_ (hK _ _ ?_); rotate_left 1; (repeat first | exact .head _ | apply List.Mem.tail); (focus (intro _; simp; done)); (focus (intro _; simp; done))); clear hK K) | ((guard_target =~ wpList _ _ _ (Oper.mk _ (.buildSlice _ _ _) _ _ _ _ :: _) _ _; refine BigFrame.wpList_want rfl (fun K hK => ?_); refine o_buildSlice (C := ?_) (E := ?_) rfl rfl H ?_ rfl (fun w3 b2 he H2 => hK _ _ ?_); rotate_left 2; (focus (intro _; simp [go_sem, Instr.buildSlice]; with_reducible exact rfl))); clear hK K he; clear H; (try clear w2); revert w3; intro w2 H; simp [Act.eval, Value.cells, setL, List.getD] at H; (clear tk0; rename Nat => b4))); simp only [Act.put, List.setIfInBounds_toArray, List.set_cons_succ, List.set_cons_zero]))
              go_roundg (gkA - 1)
              case rel =>
                refine ⟨os ++ [⟨.slice Ar q cr, r⟩], ?_, by omega, by have := HJ.out; congr 1; omega, ?_⟩
                · rw [show N - (gkA - 1) = j + 1 by have := HJ.out; omega, HST.out, if_neg (by simpa using HVH.out), List.map_append, ← HEND.out]; rfl
                · have H4 := H.tail.swap.tail
                  rw [← HOM.out, ← HX.out, ← hR_app] at H4
                  have H5 := (H4.swap.swap1).putEnd (L := [_, _, _, _])
                  rw [show (os ++ [(⟨.slice Ar q cr, r⟩ : RgE)]).length = ol + 1 by rw [← HOL.out]; simp, show (os ++ [(⟨.slice Ar q cr, r⟩ : RgE)]).map (·.s) = os.map (·.s) ++ [.slice Ar q cr] by simp,
                    show (os ++ [(⟨.slice Ar q cr, r⟩ : RgE)]).map rB = os.map rB ++ [rB ⟨.slice Ar q cr, r⟩] by rw [List.map_append]; rfl,
                    show ((os ++ [(⟨.slice Ar q cr, r⟩ : RgE)]).map (·.l)).flatten = fl ++ r by rw [← HOF.out]; simp,
                    show (fl ++ r).length = fn + q by rw [List.length_append, ← HFL.out, HQ.out, HOF.out]]
                  rw [show Res.grow 36 2 (.slice Ar q cr) q (hR r) = rB ⟨.slice Ar q cr, r⟩ by rw [HQ.out]] at H5
                  exact H5
              case measure => omega
            · clear hgo hnz
              have tk0 : True := trivial
              go_wp2_with (guard_target =~ wpList _ _ _ (_ :: _) _ _; (first | (guard_target =~ wpList _ _ _ (Oper.mk _ (.call { callee := .builtin .append, args := _, argTypes := _ }) _ _ _ _ :: _) _ _; refine BigFrame.wpList_want rfl (fun K hK => ?_); refine o_appendS (news := ?_) (n := ?_) (xs := ?_) (l' := ?_) infoHf rfl rfl rfl H ?_ ?_ ?_ (by kernel_rfl) rfl (by decide) ?_ ?_ ?_ (fun v2 w3 H2 hn => hK _ _ ?_); rotate_left 4; (focus (refine H.slGrow (e := 36) (size := 2) (n := ?_) (c := ?_) ?_; rotate_left 2; (repeat first | exact .head _ | apply List.Mem.tail))); exact (rr_len HX.out HQ.out); (focus (intro _; (exact r3))); exact (rr_one HX.out); exact (by unfold maxLen; omega); exact (by omega); clear hK K hn; clear H; (try clear w2); revert w3; intro w2 H; simp only [List.nil_append, Nat.zero_add] at H; (obtain ⟨A8, c8, rfl⟩ := H.growForm (v := v2) (by repeat first | exact .head _ | apply List.Mem.tail))) | (guard_target =~ wpList _ _ _ (Oper.mk _ (.call { callee := .builtin .append, args := _, argTypes := _ }) _ _ _ _ :: _) _ _; refine BigFrame.wpList_want rfl (fun K hK => ?_); refine o_append (row := ?_) (n := ?_) (xs := ?_) (l' := ?_) infoSl rfl rfl rfl H ?_ rfl ?_ ?_ (by kernel_rfl) rfl (by decide) ?_ ?_ ?_ (fun v2 w3 H2 hn => hK _ _ ?_); rotate_left 4; (repeat first | exact .head _ | apply List.Mem.tail); (focus (simp; done)); (focus (intro _; (exact r3))); exact rfl; exact (by unfold maxLen; omega); exact (by omega); clear hK K hn; clear H; (try clear w2); revert w3; intro w2 H; simp only [List.take_succ_cons, List.take_zero, Nat.one_mul] at H; (obtain ⟨A7, c7, rfl⟩ := H.growForm (v := v2) (by repeat first | exact .head _ | apply List.Mem.tail))) | ((guard_target =~ wpList _ _ _ (Oper.mk _ (.buildSlice _ _ _) _ _ _ _ :: _) _ _; refine BigFrame.wpList_want rfl (fun K hK => ?_); refine o_buildSlice (C := ?_) (E := ?_) rfl rfl H ?_ rfl (fun w3 b2 he H2 => hK _ _ ?_); rotate_left 2; (focus (intro _; simp [go_sem, Instr.buildSlice]; with_reducible exact rfl))); clear hK K he; clear H; (try clear w2); revert w3; intro w2 H; simp [Act.eval, Value.cells, setL, List.getD] at H; (clear tk0; rename Nat => b4))); simp only [Act.put, List.setIfInBounds_toArray, List.set_cons_succ, List.set_cons_zero])
              go_roundg (gkA - 1)
              case rel =>
                refine ⟨os ++ [⟨.slice Ar q cr, r⟩], ?_, by omega, by have := HJ.out; congr 1; omega, ?_⟩
                · rw [show N - (gkA - 1) = j + 1 by have := HJ.out; omega, HST.out, if_neg (by simpa using HVH.out), List.map_append, ← HEND.out]; rfl
                · have H4 := H.tail.swap.tail
                  rw [← HOM.out, ← HX.out, ← hR_app] at H4
                  have H5 := (H4.swap.swap1).putEnd (L := [_, _, _, _])
                  rw [show (os ++ [(⟨.slice Ar q cr, r⟩ : RgE)]).length = ol + 1 by rw [← HOL.out]; simp, show (os ++ [(⟨.slice Ar q cr, r⟩ : RgE)]).map (·.s) = os.map (·.s) ++ [.slice Ar q cr] by simp,
                    show (os ++ [(⟨.slice Ar q cr, r⟩ : RgE)]).map rB = os.map rB ++ [rB ⟨.slice Ar q cr, r⟩] by rw [List.map_append]; rfl,
                    show ((os ++ [(⟨.slice Ar q cr, r⟩ : RgE)]).map (·.l)).flatten = fl ++ r by rw [← HOF.out]; simp,
                    show (fl ++ r).length = fn + q by rw [List.length_append, ← HFL.out, HQ.out, HOF.out]]
                  rw [show Res.grow 36 2 (.slice Ar q cr) q (hR r) = rB ⟨.slice Ar q cr, r⟩ by rw [HQ.out]] at H5
                  exact H5
              case measure => omega
      · have tk0 : True := trivial
        go_wp2_with (first
          | (go_at_call 34; (with_reducible refine (hH1 _ (H.slGrow m1)).mono ?_); rintro e w3 ⟨rfl, hb⟩; replace H := H.ext hb; clear hb; dsimp only; (skip))
          | (guard_target =~ wpList _ _ _ (_ :: _) _ _; (guard_target =~ wpList _ _ _ (Oper.mk _ (.load _ _) _ _ _ _ :: _) _ _; refine BigFrame.wpList_want rfl (fun K hK => ?_); (refine o_loadN (cs := ?_) (r := ?_) rfl rfl H ?_ ?_ ?_ ?_ (hK _ _ ?_); rotate_left 2; (with_reducible assumption); (repeat first | exact .head _ | apply List.Mem.tail); (focus (intro _; simp; done)); (focus (intro _; simp; done))); clear hK K); simp only [Act.put, List.setIfInBounds_toArray, List.set_cons_succ, List.set_cons_zero]))
        go_roundg (gk - 1)
        case rel =>
          refine ⟨os, ?_, by omega, by have := HJ.out; congr 1; omega, ?_⟩
          · rw [show N - (gk - 1) = j + 1 by have := HJ.out; omega, HST.out, if_pos (by simpa using HVH.out)]
          · rw [HOL.out, HFL.out]; exact H
        case measure => omega
    · obtain rfl : gk = 0 := by omega
      rw [Nat.sub_zero, List.take_of_length_le (by have := HN.out; omega)] at hos
      go_wp2_with (first | fail)
      obtain ⟨Ar, cr, rfl, h4, h5, h6⟩ := H.giveGrow m0 HF.out
      go_ret
      refine ⟨Ar, cr, os.map (·.s), ?_, H.below, h6, ?_, fun i r hr => ?_, ?_, h5⟩
      · have hlen : (ringsZ vs es).length = os.length := by unfold ringsZ; rw [← hos]; simp
        simp [hlen]
      · unfold ringsZ; rw [← hos]; simp
      · unfold ringsZ at hr
        rw [← hos, List.getElem?_map] at hr
        cases ho : os[i]? with
        | none => rw [ho] at hr; cases hr
        | some o =>
          rw [ho] at hr
          obtain rfl : o.l = r := by simpa using hr
          obtain ⟨A3, c3, e3, _, _, h3⟩ := H.giveGrow (e := 36) (size := 2) (v := o.s) (n := o.l.length) (xs := hR o.l) (by
            have : rB o ∈ os.map rB := List.mem_map.2 ⟨o, List.mem_of_getElem? ho, rfl⟩
            simp [this]) HF.out
          exact ⟨A3, c3, by rw [List.getElem?_map, ho]; simp [e3], h3⟩
      · unfold ringsZ; rw [← hos]; simpa using h4
end Go.Proofs.Ytlhmjhildlnokaa

/-
  The walks of the small functions of spin's statements: few, plain, awake.
-/
namespace Go.Proofs.Ytlhmjhildlnokaa
set_option linter.unusedVariables false
set_option linter.unusedSimpArgs false
open Go.RowKit

abbrev plV16 (A A2 : Option Addr) (n m c c2 : Nat) : Value := .agg #[.slice A n c, .slice A2 m c2]
set_option maxRecDepth 100000 in
theorem few16_any (A A2 : Option Addr) (n m c c2 : Nat) (w : World) :
    Calls Try.prog 12 #[.agg #[.slice A n c, .slice A2 m c2]] w fun e w' => e = .returned (.bool (decide (n ≤ 40) && decide (m ≤ 40))) ∧ Below w.heap.size w w' := by
  have H := Own.start w
  obtain ⟨v, hv⟩ : ∃ v, (decide (n ≤ 40) && decide (m ≤ 40)) = v := ⟨_, rfl⟩
  have HV := Lib.hid hv
  rw [hv]; clear hv
  go_enter Try.func12, Try.ntmps12
  have tk0 : True := trivial
  go_wp2_with (first
    | go_big_skip
    | (guard_target =~ wpList _ _ _ (_ :: _) _ _; (first | (guard_target =~ wpList _ _ _ (Oper.mk _ (.load _ _) _ _ _ _ :: _) _ _; refine BigFrame.wpList_want rfl (fun K hK => ?_); (refine o_loadC (v := ?_) (row := ?_) rfl rfl H ?_ ?_ ?_ (hK _ _ ?_); rotate_left 2; (repeat first | exact .head _ | apply List.Mem.tail); (exact rfl); (focus (intro _; simp; done))); clear hK K) | ((guard_target =~ wpList _ _ _ (Oper.mk _ (.box _ _) _ _ _ _ :: _) _ _; refine BigFrame.wpList_want rfl (fun K hK => ?_); refine o_box rfl H rfl (fun w3 b2 he H2 => hK _ _ ?_)); clear hK K he; clear H; (try clear w2); revert w3; intro w2 H; simp [Act.eval, Value.cells, setL, List.getD] at H; (clear tk0; rename Nat => b1))); simp only [Act.put, List.setIfInBounds_toArray, List.set_cons_succ, List.set_cons_zero]))
  all_goals
    go_ret
    exact ⟨ret_b (by rw [← HV.out, Bool.eq_iff_iff]; simp only [Bool.and_eq_true, decide_eq_true_eq, Bool.false_eq_true, false_iff]; omega), H.below⟩
set_option maxRecDepth 100000 in
theorem plain16_any (A A2 : Option Addr) (n m c c2 : Nat) (w : World) :
    Calls Try.prog 15 #[.agg #[.slice A n c, .slice A2 m c2]] w fun e w' => e = .returned (.agg #[.slice A n c, .slice A2 m c2]) ∧ Below w.heap.size w w' := by
  have H := Own.start w
  go_enter Try.func15, Try.ntmps15
  have tk0 : True := trivial
  have tk1 : True := trivial
  go_wp2_with (guard_target =~ wpList _ _ _ (_ :: _) _ _; (first | (guard_target =~ wpList _ _ _ (Oper.mk _ (.load _ _) _ _ _ _ :: _) _ _; refine BigFrame.wpList_want rfl (fun K hK => ?_); (refine o_loadC (v := ?_) (row := ?_) rfl rfl H ?_ ?_ ?_ (hK _ _ ?_); rotate_left 2; (repeat first | exact .head _ | apply List.Mem.tail); (exact rfl); (focus (intro _; simp; done))); clear hK K) | (guard_target =~ wpList _ _ _ (Oper.mk _ (.store _ _ _) _ _ _ _ :: _) _ _; refine BigFrame.wpList_want rfl (fun K hK => ?_); refine o_store (l' := ?_) (row := ?_) rfl rfl H rfl ?_ ?_ ?_ ?_ (fun w3 H2 => hK _ _ ?_); rotate_left 2; (exact r0); (focus (intro _; simp [Act.eval, Value.cells]; done)); (focus (simp [Act.eval, Value.cells]; done)); (exact rfl); clear hK K; clear H; (try clear w2); revert w3; intro w2 H; simp [Act.eval, Value.cells, setL, List.getD] at H) | ((first | (guard_target =~ wpList _ _ _ (Oper.mk _ (.alloc _) _ _ _ _ :: _) _ _; refine BigFrame.wpList_want rfl (fun K hK => ?_); refine o_alloc (z := ?_) rfl ?_ H rfl (fun w3 b2 he H2 => hK _ _ ?_); rotate_left 1; (focus (intro _; simp; with_reducible exact rfl))) | (guard_target =~ wpList _ _ _ (Oper.mk _ (.box _ _) _ _ _ _ :: _) _ _; refine BigFrame.wpList_want rfl (fun K hK => ?_); refine o_box rfl H rfl (fun w3 b2 he H2 => hK _ _ ?_))); clear hK K he; clear H; (try clear w2); revert w3; intro w2 H; simp [Act.eval, Value.cells, setL, List.getD] at H; (first | (clear tk0; rename Nat => b1) | (clear tk1; rename Nat => b2)))); simp only [Act.put, List.setIfInBounds_toArray, List.set_cons_succ, List.set_cons_zero])
  have hr := H.loadVarN (P := Try.prog) (ty := 30) m0 (by kernel_rfl) (by kernel_rfl)
  exact bodyPost_ret (v := .agg #[.slice A n c, .slice A2 m c2]) (by simp [results, Try.results15, asAddr, hr]) rfl ⟨rfl, H.below⟩
def vs16 : List Vt := [⟨1, ⟨0, 0⟩⟩, ⟨2, ⟨4, 0⟩⟩]
def es16 : List Eg := [⟨1, 1, 2⟩]
theorem vR16 : vR vs16 = [.int .i64 1, .int .i64 0, .int .i64 0, .int .i64 2, .int .i64 4, .int .i64 0] := rfl
theorem eR16 : eR es16 = [.int .i64 1, .int .i64 1, .int .i64 2] := rfl
theorem aw16_r : rightB vs16 es16 = true := by decide +kernel
theorem aw16_l : ringsZ vs16 es16 = [[⟨1, false⟩, ⟨1, true⟩]] := by decide +kernel
/-- One ring. -/
theorem retR_one {F : Nat → Prop} {w : World} {r : List Hf} {e : Ending} {w' : World} (h : RetR F w [r] e w') : ∃ A c A1 c1, e = .returned (.slice A 1 c) ∧ Below w.heap.size w w' ∧ Sl F w' A [.slice A1 r.length c1] ∧ Sl F w' A1 (hR r) := by
  obtain ⟨A, c, hs, rfl, hb, h1, h2, h3, h4, h5⟩ := h
  obtain ⟨A1, c1, h6, h7⟩ := h3 0 r rfl
  match hs, h2, h6 with
  | [x], _, h6 =>
    obtain rfl : x = .slice A1 r.length c1 := by simpa using h6
    exact ⟨A, c, A1, c1, rfl, hb, h1, h7⟩
theorem at_rdN0 (b o : Nat) (A : Option Addr) (n c : Nat) : (Res.rd (some ⟨b, o, none⟩) b o [.slice A n c]).at b o [.slice A n c] := ⟨rfl, 0, rfl, rfl⟩
set_option maxRecDepth 100000 in
set_option maxHeartbeats 4000000 in
theorem awake16_any (w : World) :
    Calls Try.prog 13 #[] w fun e w' => e = .returned (.bool true) ∧ Below w.heap.size w w' := by
  have H := Own.start w
  obtain ⟨F0, hno⟩ : ∃ F0 : Nat → Prop, ∀ k, ¬ F0 k := ⟨fun _ => False, fun _ h => h⟩
  have h1 := fun F w b b' h h' hF => (srings_any vs16 es16 (some ⟨b, 0, none⟩) (some ⟨b', 0, none⟩) 2 1 2 1 F w rfl rfl h h' hF (by omega) (by omega) (by omega) (by unfold maxLen; omega))
  simp only [aw16_r, aw16_l, if_true] at h1
  rw [vR16, eR16] at h1
  have h2 := fun w b b' h h' => (h1 F0 w b b' h h' (fun k h => absurd h (hno k))).mono (fun _ _ h => retR_one h)
  clear h1
  have hsm := fun F w A A2 c c2 (h : Sl F w A (hR [⟨1, false⟩, ⟨1, true⟩])) (h' : Sl F0 w A2 [.int .i64 1, .bool false, .int .i64 1, .bool true]) => same_any [⟨1, false⟩, ⟨1, true⟩] [⟨1, false⟩, ⟨1, true⟩] A A2 2 2 c c2 (fun _ => False) w rfl rfl h.none_of h'.none_of (by omega) (by omega)
  simp only [decide_true] at hsm
  go_enter Try.func13, Try.ntmps13
  have tk0 : True := trivial
  have tk1 : True := trivial
  have tk2 : True := trivial
  have tk3 : True := trivial
  go_wp2_with (first
    | (go_at_call 14; (with_reducible refine (h2 _ _ _ (H.giveCells m2 (fun k h => absurd h (hno k)) 0 rfl) (H.giveCells m1 (fun k h => absurd h (hno k)) 0 rfl)).mono ?_); rintro e w3 ⟨A3, c3, A4, c4, rfl, hb, s3, s4⟩; replace H := H.ext hb; clear hb; replace H := H.none_; replace s3 := s3.ro (l := []) rfl; obtain ⟨b3, o3, H4, f3⟩ := H.addSl s3; clear H s3; have H := H4; clear H4; replace s4 := H.moreRo rfl (s4.ro (l := []) rfl); obtain ⟨b4, o4, H4, f4⟩ := H.addSl s4; clear H s4; have H := H4; clear H4; obtain rfl := H.rdAddr m1 (by simp); have p1 := at_rdN0 b3 o3 A4 2 c4; dsimp only; (skip))
    | (go_at_call 18; (with_reducible refine (hsm _ _ _ _ _ _ (by exact H.giveRd m1 f4) (H.giveCells m0 (fun k h => absurd h (hno k)) 0 rfl)).mono ?_); rintro e w3 ⟨rfl, hb⟩; replace H := H.ext hb; clear hb; dsimp only; (skip))
    | (guard_target =~ wpList _ _ _ (_ :: _) _ _; (first | (guard_target =~ wpList _ _ _ (Oper.mk _ (.load _ _) _ _ _ _ :: _) _ _; refine BigFrame.wpList_want rfl (fun K hK => ?_); (first | (refine o_load (v := ?_) (r := ?_) rfl rfl H ?_ ?_ ?_ (hK _ _ ?_); rotate_left 2; (with_reducible assumption); (repeat first | exact .head _ | apply List.Mem.tail); (focus (intro _; simp; done))) | (refine o_loadNC (row := ?_) rfl rfl H ?_ ?_ ?_ (hK _ _ ?_); rotate_left 1; (repeat first | exact .head _ | apply List.Mem.tail); (focus (intro _; simp; done)); (focus (intro _; simp; done)))); clear hK K) | (guard_target =~ wpList _ _ _ (Oper.mk _ (.store _ _ _) _ _ _ _ :: _) _ _; refine BigFrame.wpList_want rfl (fun K hK => ?_); refine o_store (l' := ?_) (row := ?_) rfl rfl H rfl ?_ ?_ ?_ ?_ (fun w3 H2 => hK _ _ ?_); rotate_left 2; (exact r0); (focus (intro _; simp [Act.eval, Value.cells]; done)); (focus (simp [Act.eval, Value.cells]; done)); (exact rfl); clear hK K; clear H; (try clear w2); revert w3; intro w2 H; simp [Act.eval, Value.cells, setL, List.getD] at H) | ((first | (guard_target =~ wpList _ _ _ (Oper.mk _ (.alloc _) _ _ _ _ :: _) _ _; refine BigFrame.wpList_want rfl (fun K hK => ?_); refine o_alloc (z := ?_) rfl ?_ H rfl (fun w3 b2 he H2 => hK _ _ ?_); rotate_left 1; (focus (intro _; simp; with_reducible exact rfl))) | (guard_target =~ wpList _ _ _ (Oper.mk _ (.buildSlice _ _ _) _ _ _ _ :: _) _ _; refine BigFrame.wpList_want rfl (fun K hK => ?_); refine o_buildSlice (C := ?_) (E := ?_) rfl rfl H ?_ rfl (fun w3 b2 he H2 => hK _ _ ?_); rotate_left 2; (focus (intro _; simp [go_sem, Instr.buildSlice]; with_reducible exact rfl)))); clear hK K he; clear H; (try clear w2); revert w3; intro w2 H; simp [Act.eval, Value.cells, setL, List.getD] at H; (first | (clear tk0; rename Nat => b1) | (clear tk1; rename Nat => b2) | (clear tk2; rename Nat => b5) | (clear tk3; rename Nat => b6)))); simp only [Act.put, List.setIfInBounds_toArray, List.set_cons_succ, List.set_cons_zero]))
  go_ret
  exact ⟨rfl, H.below⟩
end Go.Proofs.Ytlhmjhildlnokaa

/-
  An argument that is a plan: two rows of structs of three integers.
-/
namespace Go.Proofs.Ytlhmjhildlnokaa
set_option linter.unusedVariables false
set_option linter.constructorNameAsVariable false
open Go.RowKit Go.WideShapes Go.ChangeShapes
theorem add_add (a : Addr) (m j : Nat) : (a.add m).add j = a.add (m + j) := by
  by_cases hm : m = 0
  · subst hm; simp [Addr.add]
  · by_cases hj : j = 0
    · subst hj; simp [Addr.add]
    · simp [Addr.add, hm, hj, Nat.add_assoc]
theorem len2 {l : List Value} (h : l.length = 2) : ∃ a b, l = [a, b] := by
  match l, h with
  | [a, b], _ => exact ⟨a, b, rfl⟩
theorem len3 {l : List Value} (h : l.length = 3) : ∃ a b c, l = [a, b, c] := by
  match l, h with
  | [a, b, c], _ => exact ⟨a, b, c, rfl⟩
section
variable {H : Type} {enc : TypeId × Value → H} {P : Program} {w : World} {base : Nat} {spare : Nat → Bool} {held : Bool}
/-- A row of elements, each of three cells. -/
theorem trod_rows {α : Type} {f : α → List Value} {Q : α → Prop} {t e : TypeId} {n : Nat} {cs : List Value} {y : DataW H × List MemPlace} (ht : P.underlying t = some (.slice e)) (hc : P.cellsOf e = 3) (hf3 : ∀ a, (f a).length = 3)
    (hE : ∀ (n : Nat) cs x, DataW.trod enc P w base spare held n e cs = some x → ∃ a, cs = f a ∧ Q a) (h : DataW.trod enc P w base spare held n t cs = some y) :
    ∃ (A : Option Addr) (cap : Nat) (L : List α), cs = [.slice A L.length cap] ∧ L.length ≤ cap ∧ cap ≤ maxLen ∧ (∀ a ∈ L, Q a) ∧ Row w A (L.flatMap f) := by
  rcases DataW.trod_slice ht h with ⟨rfl, _⟩ | ⟨a, len, cap, elems, rest, n', _, rfl, _, hb, hl, hm, hlen, hel, _⟩
  · exact ⟨none, 0, [], rfl, Nat.le_refl _, Nat.zero_le _, by simp, Row.nil_ _ _⟩
  · have each : ∀ i, i < len → ∃ v : α, Q v ∧ ∀ j u, (f v)[j]? = some u → w.cell? (a.add (i * 3 + j)) = some u := by
      intro i hi
      have h1 := hel i hi
      have h2 : elems[i]? = some elems[i] := List.getElem?_eq_getElem (by omega)
      rw [h2, Option.bind_eq_some_iff] at h1
      obtain ⟨cs', h3, h4⟩ := h1
      obtain ⟨v, rfl, hq⟩ := hE _ _ _ h4
      refine ⟨v, hq, fun j u hj => ?_⟩
      have h5 := World.cells?_some h3
      rw [hc] at h5
      have hj3 : j < 3 := by have := (List.getElem?_eq_some_iff.1 hj).1; rw [hf3] at this; exact this
      have := h5.2.2 j hj3
      rw [hj] at this
      rw [← this, add_add]
    have choose : ∀ k, k ≤ len → ∃ L : List α, L.length = k ∧ (∀ v ∈ L, Q v) ∧ ∀ i v, L[i]? = some v → ∀ j u, (f v)[j]? = some u → w.cell? (a.add (i * 3 + j)) = some u := by
      intro k
      induction k with
      | zero => exact fun _ => ⟨[], rfl, by simp, by simp⟩
      | succ k ih =>
        intro hk
        obtain ⟨L, h1, h2, h3⟩ := ih (by omega)
        obtain ⟨v, h4, h5⟩ := each k (by omega)
        refine ⟨L ++ [v], by simp [h1], fun u hu => ?_, fun i u hi => ?_⟩
        · rcases List.mem_append.1 hu with hu | hu
          · exact h2 u hu
          · obtain rfl := List.mem_singleton.1 hu; exact h4
        · rw [List.getElem?_append] at hi
          split at hi
          · exact h3 i u hi
          · rename_i hik
            have : i - L.length = 0 := by
              by_cases h0 : i - L.length = 0
              · exact h0
              · rw [List.getElem?_eq_none (by simp; omega)] at hi; cases hi
            rw [this] at hi
            obtain rfl : v = u := by simpa using hi
            obtain rfl : i = k := by omega
            exact h5
    obtain ⟨L, h1, h2, h3⟩ := choose len (Nat.le_refl _)
    refine ⟨some a, cap, L, by rw [h1], by omega, hm, h2, Row.of_cells fun j v hv => ?_⟩
    have hj : j < L.length * 3 := by have := (List.getElem?_eq_some_iff.1 hv).1; rwa [flat3_len f hf3] at this
    have hi : j / 3 < L.length := by omega
    have hg : L[j / 3]? = some L[j / 3] := List.getElem?_eq_getElem hi
    have hat := flat3_at f hf3 L (j / 3) _ hg
    have := h3 (j / 3) _ hg (j % 3) v (by
      rw [← hat, List.getElem?_take, if_pos (Nat.mod_lt _ (by omega)), List.getElem?_drop, show j / 3 * 3 + j % 3 = j by omega]; exact hv)
    rwa [show j / 3 * 3 + j % 3 = j by omega] at this
/-- Fields of a struct. -/
theorem trod_flds {fs : Array Field} {t : TypeId} {n : Nat} {cs : List Value} {y : DataW H × List MemPlace} {l : List (TypeId × Nat)} (hu : P.underlying t = some (.struct fs)) (hfs : fs.toList.map (fun f => (f.type, f.offset)) = l)
    (h : DataW.trod enc P w base spare held n t cs = some y) : cs.length = P.cellsOf t ∧ ∀ u o, (u, o) ∈ l → ∃ n' x, DataW.trod enc P w base spare held n' u ((cs.drop o).take (P.cellsOf u)) = some x := by
  obtain ⟨xs, n', _, _, hlen, hxl, hx⟩ := DataW.trod_struct hu h
  refine ⟨hlen, fun u o hm => ?_⟩
  rw [← hfs] at hm
  obtain ⟨f, hf, e⟩ := List.mem_map.1 hm
  simp only [Prod.mk.injEq] at e
  obtain ⟨rfl, rfl⟩ := e
  obtain ⟨i, hi⟩ := List.getElem?_of_mem hf
  have hi' : fs[i]? = some f := by simpa using hi
  have := hx i f hi'
  have hil : i < xs.length := by rw [hxl]; exact (Array.getElem?_eq_some_iff.1 hi').1
  rw [List.getElem?_eq_getElem hil] at this
  exact ⟨n', _, this⟩
end
section
variable {H : Type} {enc : TypeId × Value → H} {w : World} {base : Nat} {spare : Nat → Bool} {held : Bool}
theorem wf64 {n : Int} (h : (Lit.int .i64 n).wf = true) : -9223372036854775808 ≤ n ∧ n ≤ 9223372036854775807 := bounds_i64 h
def In64 (n : Int) : Prop := -9223372036854775808 ≤ n ∧ n ≤ 9223372036854775807
theorem trod_pt {n : Nat} {cs : List Value} {y : DataW H × List MemPlace} (h : DataW.trod enc Try.prog w base spare held n 47 cs = some y) : ∃ a b, cs = [.int .i64 a, .int .i64 b] ∧ In64 a ∧ In64 b := by
  have hu : Try.prog.underlying 47 = some (.struct (Try.prog.fieldsOf 47)) := by kernel_rfl
  have hf : (Try.prog.fieldsOf 47).toList.map (fun f => (f.type, f.offset)) = [(3, 0), (3, 1)] := by kernel_rfl
  have hi : Try.prog.underlying 3 = some (.int .i64) := by kernel_rfl
  have hc : Try.prog.cellsOf 3 = 1 := by kernel_rfl
  have hC : Try.prog.cellsOf 47 = 2 := by kernel_rfl
  obtain ⟨hl, hx⟩ := trod_flds hu hf h
  rw [hC] at hl
  obtain ⟨c0, c1, rfl⟩ := len2 hl
  obtain ⟨_, _, h0⟩ := hx 3 0 (by simp)
  obtain ⟨_, _, h1⟩ := hx 3 1 (by simp)
  rw [hc] at h0 h1
  obtain ⟨a, ea, _, wa⟩ := DataW.trod_int hi h0
  obtain ⟨b, eb, _, wb⟩ := DataW.trod_int hi h1
  simp at ea eb
  subst ea eb
  exact ⟨a, b, rfl, bounds_i64 wa, bounds_i64 wb⟩
theorem trod_vt (n : Nat) (cs : List Value) (y : DataW H × List MemPlace) (h : DataW.trod enc Try.prog w base spare held n 49 cs = some y) : ∃ v : Vt, cs = t3 v.id v.p.x v.p.y ∧ (In64 v.id ∧ In64 v.p.x ∧ In64 v.p.y) := by
  have hu : Try.prog.underlying 49 = some (.struct (Try.prog.fieldsOf 49)) := by kernel_rfl
  have hf : (Try.prog.fieldsOf 49).toList.map (fun f => (f.type, f.offset)) = [(3, 0), (47, 1)] := by kernel_rfl
  have hi : Try.prog.underlying 3 = some (.int .i64) := by kernel_rfl
  have hc : Try.prog.cellsOf 3 = 1 := by kernel_rfl
  have hc2 : Try.prog.cellsOf 47 = 2 := by kernel_rfl
  have hC : Try.prog.cellsOf 49 = 3 := by kernel_rfl
  obtain ⟨hl, hx⟩ := trod_flds hu hf h
  rw [hC] at hl
  obtain ⟨c0, c1, c2, rfl⟩ := len3 hl
  obtain ⟨_, _, h0⟩ := hx 3 0 (by simp)
  obtain ⟨_, _, h1⟩ := hx 47 1 (by simp)
  rw [hc] at h0
  rw [hc2] at h1
  obtain ⟨a, ea, _, wa⟩ := DataW.trod_int hi h0
  obtain ⟨b, c, eb, wb, wc⟩ := trod_pt h1
  simp at ea eb
  obtain ⟨e1, e2⟩ := eb
  subst ea e1 e2
  exact ⟨⟨a, ⟨b, c⟩⟩, rfl, bounds_i64 wa, wb, wc⟩
theorem trod_eg (n : Nat) (cs : List Value) (y : DataW H × List MemPlace) (h : DataW.trod enc Try.prog w base spare held n 79 cs = some y) : ∃ v : Eg, cs = t3 v.id v.a v.b ∧ (In64 v.id ∧ In64 v.a ∧ In64 v.b) := by
  have hu : Try.prog.underlying 79 = some (.struct (Try.prog.fieldsOf 79)) := by kernel_rfl
  have hf : (Try.prog.fieldsOf 79).toList.map (fun f => (f.type, f.offset)) = [(3, 0), (3, 1), (3, 2)] := by kernel_rfl
  have hi : Try.prog.underlying 3 = some (.int .i64) := by kernel_rfl
  have hc : Try.prog.cellsOf 3 = 1 := by kernel_rfl
  have hC : Try.prog.cellsOf 79 = 3 := by kernel_rfl
  obtain ⟨hl, hx⟩ := trod_flds hu hf h
  rw [hC] at hl
  obtain ⟨c0, c1, c2, rfl⟩ := len3 hl
  obtain ⟨_, _, h0⟩ := hx 3 0 (by simp)
  obtain ⟨_, _, h1⟩ := hx 3 1 (by simp)
  obtain ⟨_, _, h2⟩ := hx 3 2 (by simp)
  rw [hc] at h0 h1 h2
  obtain ⟨a, ea, _, wa⟩ := DataW.trod_int hi h0
  obtain ⟨b, eb, _, wb⟩ := DataW.trod_int hi h1
  obtain ⟨c, ec, _, wc⟩ := DataW.trod_int hi h2
  simp at ea eb ec
  subst ea eb ec
  exact ⟨⟨a, b, c⟩, rfl, bounds_i64 wa, bounds_i64 wb, bounds_i64 wc⟩
theorem row_sl {A : Option Addr} {xs : List Value} (h : Row w A xs) : Sl (fun _ => False) w A xs := by
  by_cases hp : 0 < xs.length
  · obtain ⟨b, off, rfl, hc⟩ := h hp
    have h0 := hc 0 _ (List.getElem?_eq_getElem hp)
    exact ⟨b, off, fun _ => ⟨rfl, World.block_lt_of_cell? w _ h0, id⟩, hc⟩
  · have : xs = [] := by cases xs with | nil => rfl | cons => simp at hp
    subst this
    exact Sl.nil_ _ _ _
/-- What is handed over in an argument that is a plan. -/
structure PlArg (w : World) (A A2 : Option Addr) (c c2 : Nat) (vs : List Vt) (es : List Eg) : Prop where
  sv : Sl (fun _ => False) w A (vR vs)
  se : Sl (fun _ => False) w A2 (eR es)
  cv : vs.length ≤ c ∧ c ≤ maxLen
  ce : es.length ≤ c2 ∧ c2 ≤ maxLen
  wv : ∀ v ∈ vs, In64 v.id ∧ In64 v.p.x ∧ In64 v.p.y
  we : ∀ e ∈ es, In64 e.id ∧ In64 e.a ∧ In64 e.b
theorem open_plan {r : Reach} {b0 : Nat} {v : Value} {d : DataW H} {p : List MemPlace} (hv : Value.okWide Try.prog w r b0 25 v) (h : DataW.Trod enc Try.prog w base spare held 25 v d p) :
    ∃ A A2 c c2 vs es, v = .agg #[.slice A (vs : List Vt).length c, .slice A2 (es : List Eg).length c2] ∧ PlArg w A A2 c c2 vs es := by
  have hu : Try.prog.underlying 25 = some (.struct (Try.prog.fieldsOf 25)) := by kernel_rfl
  have hf : (Try.prog.fieldsOf 25).toList.map (fun f => (f.type, f.offset)) = [(22, 0), (23, 1)] := by kernel_rfl
  have hC : Try.prog.cellsOf 25 = 2 := by kernel_rfl
  have hc1 : Try.prog.cellsOf 22 = 1 := by kernel_rfl
  have hc2 : Try.prog.cellsOf 23 = 1 := by kernel_rfl
  have hs1 : Try.prog.underlying 22 = some (.slice 49) := by kernel_rfl
  have hs2 : Try.prog.underlying 23 = some (.slice 79) := by kernel_rfl
  simp only [Value.okWide, hu] at hv
  obtain ⟨cs, rfl, hsz, _⟩ := hv
  obtain ⟨fuel, hx⟩ := h
  obtain ⟨hl, hx⟩ := trod_flds hu hf hx
  rw [hC] at hsz
  obtain ⟨l⟩ := cs
  simp only [List.size_toArray] at hsz
  obtain ⟨e0, e1, rfl⟩ := len2 hsz
  obtain ⟨_, _, h0⟩ := hx 22 0 (by simp)
  obtain ⟨_, _, h1⟩ := hx 23 1 (by simp)
  rw [hc1] at h0
  rw [hc2] at h1
  obtain ⟨A, c, vs, k1, k2, k3, k4, k5⟩ := trod_rows hs1 (by kernel_rfl) (fun _ => rfl) trod_vt h0
  obtain ⟨A2, c2, es, l1, l2, l3, l4, l5⟩ := trod_rows hs2 (by kernel_rfl) (fun _ => rfl) trod_eg h1
  simp [Value.cells] at k1 l1
  subst k1 l1
  exact ⟨A, A2, c, c2, vs, es, rfl, row_sl k5, row_sl l5, ⟨k2, k3⟩, ⟨l2, l3⟩, k4, l4⟩
theorem open_pt {r : Reach} {b0 : Nat} {v : Value} {d : DataW H} {p : List MemPlace} (hv : Value.okWide Try.prog w r b0 47 v) (h : DataW.Trod enc Try.prog w base spare held 47 v d p) :
    ∃ a b, v = pV a b ∧ In64 a ∧ In64 b := by
  have hu : Try.prog.underlying 47 = some (.struct (Try.prog.fieldsOf 47)) := by kernel_rfl
  simp only [Value.okWide, hu] at hv
  obtain ⟨cs, rfl, hsz, _⟩ := hv
  obtain ⟨fuel, hx⟩ := h
  obtain ⟨a, b, e, wa, wb⟩ := trod_pt hx
  obtain ⟨l⟩ := cs
  simp [Value.cells] at e
  subst e
  exact ⟨a, b, rfl, wa, wb⟩
end
end Go.Proofs.Ytlhmjhildlnokaa

/-
  An argument that is a half: a number and a truth.
-/
namespace Go.Proofs.Ytlhmjhildlnokaa
set_option linter.unusedVariables false
set_option linter.constructorNameAsVariable false
open Go.RowKit Go.WideShapes Go.ChangeShapes
section
variable {H : Type} {enc : TypeId × Value → H} {w : World} {base : Nat} {spare : Nat → Bool} {held : Bool}
theorem open_half {r : Reach} {b0 : Nat} {v : Value} {d : DataW H} {p : List MemPlace} (hv : Value.okWide Try.prog w r b0 36 v) (h : DataW.Trod enc Try.prog w base spare held 36 v d p) :
    ∃ a b, v = .agg #[.int .i64 a, .bool b] ∧ In64 a := by
  have hu : Try.prog.underlying 36 = some (.struct (Try.prog.fieldsOf 36)) := by kernel_rfl
  have hf : (Try.prog.fieldsOf 36).toList.map (fun f => (f.type, f.offset)) = [(3, 0), (4, 1)] := by kernel_rfl
  have hi : Try.prog.underlying 3 = some (.int .i64) := by kernel_rfl
  have hb : Try.prog.underlying 4 = some .bool := by kernel_rfl
  have hc : Try.prog.cellsOf 3 = 1 := by kernel_rfl
  have hcb : Try.prog.cellsOf 4 = 1 := by kernel_rfl
  have hC : Try.prog.cellsOf 36 = 2 := by kernel_rfl
  simp only [Value.okWide, hu] at hv
  obtain ⟨cs, rfl, hsz, _⟩ := hv
  obtain ⟨fuel, hx⟩ := h
  obtain ⟨hl, hx⟩ := trod_flds hu hf hx
  rw [hC] at hsz
  obtain ⟨l⟩ := cs
  simp only [List.size_toArray] at hsz
  obtain ⟨e0, e1, rfl⟩ := len2 hsz
  obtain ⟨_, _, h0⟩ := hx 3 0 (by simp)
  obtain ⟨_, _, h1⟩ := hx 4 1 (by simp)
  rw [hc] at h0
  rw [hcb] at h1
  obtain ⟨a, ea, _, wa⟩ := DataW.trod_int hi h0
  obtain ⟨b, eb, _⟩ := DataW.trod_bool hb h1
  simp [Value.cells] at ea eb
  subst ea eb
  exact ⟨a, b, rfl, bounds_i64 wa⟩
end
end Go.Proofs.Ytlhmjhildlnokaa

/-
  The walks of spin's statements: orders, out, next.
-/
namespace Go.Proofs.Ytlhmjhildlnokaa
set_option linter.unusedVariables false
set_option linter.unusedSimpArgs false
open Go.RowKit

set_option maxRecDepth 200000 in
set_option maxHeartbeats 16000000 in
theorem law_SpinOrders (e : Int) (b : Bool) (f : Int) (c : Bool) (w : World) :
    Calls Try.prog 4 #[.agg #[.int .i64 e, .bool b], .agg #[.int .i64 f, .bool c]] w fun e w' => e = .returned (.bool true) ∧ Below w.heap.size w w' := by
  have H := Own.start w
  have hq : ∀ w, (binOp .eql 36 (.agg #[.int .i64 e, .bool (!b)]) (.agg #[.int .i64 e, .bool (!b)])).run Try.prog w = .ok (.bool true) w := fun w => by
    rw [eqH_eql]; simp
  have hg := eqH_guard
  have h1 := fun w => sless_any e f b c w
  have h2 := fun w => rsless_any e f b c w
  generalize lessH ⟨e, b⟩ ⟨f, c⟩ = v at h1 h2
  go_enter Try.func4, Try.ntmps4
  have tk0 : True := trivial
  have tk1 : True := trivial
  go_wp2_with (first
    | (guard_target =~ Code.wp _ (Code.region 1 _ true) _ _ _; refine region_treeC0 1 (G := True) (.q 0 (.q 1 (.q 2 (.q 3 (.q 4 (.q 5 (.q 6 (.q 7 (.q 8 (.q 9 (.q 10 (.q 11 (.q 12 (.q 13 (.q 14 (.q 15 (.q 16 (.q 17 .nil)))))))))))))))))) (by kernel_rfl) (by intro c a d v w h; cases d <;> exact h) (by kernel_rfl) H ⟨trivial⟩ (fun _ w3 H2 => ?_); (clear H; (try clear w2); revert w3; intro w2 H))
    | (guard_target =~ wpList _ _ _ (_ :: _) _ _; ((guard_target =~ wpList _ _ _ (Oper.mk _ (.box _ _) _ _ _ _ :: _) _ _; refine BigFrame.wpList_want rfl (fun K hK => ?_); refine o_box rfl H rfl (fun w3 b2 he H2 => hK _ _ ?_)); clear hK K he; clear H; (try clear w2); revert w3; intro w2 H; simp [Act.eval, Value.cells, setL, List.getD] at H; (first | (clear tk0; rename Nat => b1) | (clear tk1; rename Nat => b2))); simp only [Act.put, List.setIfInBounds_toArray, List.set_cons_succ, List.set_cons_zero])
    | (guard_target =~ wpTreeC _ _ _ _ _ _ _; first | (guard_target =~ wpTreeC _ _ _ (Tr.e _ Tr.nil) _ _ _; refine treeC_last (by decide +kernel) H rfl rfl (fun w3 H2 K hK => ?_); clear H; (try clear w2); (revert w3; intro w2 H); simp only [List.getElem_toArray, List.getElem_cons_succ, List.getElem_cons_zero]; (first | fail); simp only [Act.put, List.setIfInBounds_toArray, List.set_cons_succ, List.set_cons_zero]) | (guard_target =~ wpTreeC _ _ _ (Tr.q _ _) _ _ _; first | (refine treeC_quiet ⟨_, H, by repeat first | exact .here | apply Suf.there⟩ rfl rfl rfl (fun K hK => ?_); simp only [List.getElem_toArray, List.getElem_cons_succ, List.getElem_cons_zero]; first | (guard_target =~ Oper.quiet _ (Oper.mk _ (.load _ _) _ _ _ _) _ _ _; (refine q_loadNC (row := ?_) rfl rfl ?_ ?_ ?_ (hK _ ?_); rotate_left 1; (repeat first | exact .head _ | apply List.Mem.tail); (focus (intro _; simp; done)); (focus (intro _; simp; done))); clear hK K; simp only [Act.put, List.setIfInBounds_toArray, List.set_cons_succ, List.set_cons_zero]) | (go_big_quiet_op; (try refine ⟨_, fun _ _ => rfl, ?_⟩); refine hK _ ?_; clear hK K)) | (refine treeC_call (v := ?_) ⟨_, H, by repeat first | exact .here | apply Suf.there⟩ rfl rfl (fun w3 H K hK => ?_) ?_; rotate_left 1; (focus (simp only [List.getElem_toArray, List.getElem_cons_succ, List.getElem_cons_zero]; first | (go_big_op; first | exact hK _ (Ext.refl _) | (go_at_call 13; (with_reducible refine (awake16_any _).mono ?_); rintro e w3 ⟨rfl, hb⟩; dsimp only; first | exact hK _ hb | exact hK _ (Ext.refl _)) | (go_at_call 19; (with_reducible refine (twin_any _ _ _).mono ?_); rintro e w3 ⟨rfl, hb⟩; dsimp only; first | exact hK _ hb | exact hK _ (Ext.refl _)) | (go_at_call 20; (with_reducible refine (rtwin_any _ _ _).mono ?_); rintro e w3 ⟨rfl, hb⟩; dsimp only; first | exact hK _ hb | exact hK _ (Ext.refl _)) | (go_at_call 21; (with_reducible refine (h1 _).mono ?_); rintro e w3 ⟨rfl, hb⟩; dsimp only; first | exact hK _ hb | exact hK _ (Ext.refl _)) | (go_at_call 22; (with_reducible refine (h2 _).mono ?_); rintro e w3 ⟨rfl, hb⟩; dsimp only; first | exact hK _ hb | exact hK _ (Ext.refl _))))); simp only [List.getElem_toArray, List.getElem_cons_succ, List.getElem_cons_zero, Act.put, List.setIfInBounds_toArray, List.set_cons_succ, List.set_cons_zero]) | (refine treeC_skip ⟨_, H, by repeat first | exact .here | apply Suf.there⟩ rfl rfl ?_; simp only [List.getElem_toArray, List.getElem_cons_succ, List.getElem_cons_zero, Act.put, List.setIfInBounds_toArray, List.set_cons_succ, List.set_cons_zero])) | (guard_target =~ wpTreeC _ _ _ (Tr.both _ _) _ _ _; refine treeC_both ?_ ?_) | (guard_target =~ wpTreeC _ _ _ (Tr.e _ _) _ _ _; first | (refine treeC_one H rfl rfl (fun w3 H2 K hK => ?_); clear H; (try clear w2); (revert w3; intro w2 H); simp only [List.getElem_toArray, List.getElem_cons_succ, List.getElem_cons_zero]; first | ((first | fail); simp only [Act.put, List.setIfInBounds_toArray, List.set_cons_succ, List.set_cons_zero]) | (go_big_op; (first | fail))) | (refine treeC_one_skip (fun w3 hx => ⟨_, H.ext hx, by repeat first | exact .here | apply Suf.there⟩) rfl rfl (fun w3 hx => ?_); replace H := H.ext hx; clear hx; (try clear w2); revert w3; intro w2 H; simp only [List.getElem_toArray, List.getElem_cons_succ, List.getElem_cons_zero, Act.put, List.setIfInBounds_toArray, List.set_cons_succ, List.set_cons_zero])) | (guard_target =~ wpTreeC _ _ _ Tr.nil _ _ _; refine treeC_nil H (fun w3 H2 => ?_); clear H; (try clear w2); revert w3; intro w2 H)))
  exact bodyPost_ret (v := .bool true) (by simp [results, Try.results4]) rfl ⟨rfl, H.below⟩
set_option maxRecDepth 200000 in
set_option maxHeartbeats 16000000 in
theorem law_SpinOut (A A2 : Option Addr) (c c2 : Nat) (vs : List Vt) (es : List Eg) (id : Int) (w : World) (hp : PlArg w A A2 c c2 vs es) :
    Calls Try.prog 5 #[.agg #[.slice A vs.length c, .slice A2 es.length c2], .int .i64 id] w fun e w' => e = .returned (.bool true) ∧ Below w.heap.size w w' := by
  obtain ⟨hs, hs2, hcv, hce, _, _⟩ := hp
  obtain ⟨F0, hF0⟩ : ∃ F0 : Nat → Prop, F0 = fun _ => False := ⟨_, rfl⟩
  have hFF : ∀ k, F0 k → k < w.heap.size := fun k h => by rw [hF0] at h; exact h.elim
  rw [← hF0] at hs hs2
  clear hF0
  obtain ⟨b0, o0, H1, f0⟩ := (Own.start w).addSl (hs.ro (by rfl))
  obtain ⟨b9, o9, H, f9⟩ := H1.addSl (hs2.ro (by rfl))
  clear hs hs2 H1
  have hfw := few16_any A A2 vs.length es.length c c2
  obtain ⟨v0, hv0⟩ : ∃ v, (decide (vs.length ≤ 40) && decide (es.length ≤ 40)) = v := ⟨_, rfl⟩
  rw [hv0] at hfw
  cases v0
  · clear hv0
    go_enter Try.func5, Try.ntmps5
    have tk0 : True := trivial
    go_wp2_with (first
      | (go_at_call 12; (with_reducible refine (hfw _).mono ?_); rintro e w3 ⟨rfl, hb⟩; replace H := H.ext hb; clear hb; dsimp only; (skip))
      | (go_at_call 13; (with_reducible refine (awake16_any _).mono ?_); rintro e w3 ⟨rfl, hb⟩; replace H := H.ext hb; clear hb; dsimp only; (skip))
      | (guard_target =~ wpList _ _ _ (_ :: _) _ _; (first | (guard_target =~ wpList _ _ _ (Oper.mk _ (.load _ _) _ _ _ _ :: _) _ _; refine BigFrame.wpList_want rfl (fun K hK => ?_); (refine o_loadNC (row := ?_) rfl rfl H ?_ ?_ ?_ (hK _ _ ?_); rotate_left 1; (repeat first | exact .head _ | apply List.Mem.tail); (focus (intro _; simp; done)); (focus (intro _; simp; done))); clear hK K) | ((guard_target =~ wpList _ _ _ (Oper.mk _ (.box _ _) _ _ _ _ :: _) _ _; refine BigFrame.wpList_want rfl (fun K hK => ?_); refine o_box rfl H rfl (fun w3 b2 he H2 => hK _ _ ?_)); clear hK K he; clear H; (try clear w2); revert w3; intro w2 H; simp [Act.eval, Value.cells, setL, List.getD] at H; (clear tk0; rename Nat => b1))); simp only [Act.put, List.setIfInBounds_toArray, List.set_cons_succ, List.set_cons_zero]))
    go_ret
    exact ⟨rfl, H.below⟩
  · have hl : vs.length ≤ 1000000 := by simp at hv0; omega
    have hl2 : es.length ≤ 1000000 := by simp at hv0; omega
    clear hv0
    have hc2 := hce.1
    have hcc := hce.2
    have h1 := fun F w h1 h2 hF => sout_any vs es A A2 vs.length es.length c c2 F id w rfl rfl h1 h2 hF hl hl2 hc2 hcc
    have h2 := fun F w h1 h2 => refRight_any vs es A A2 vs.length es.length c c2 F w rfl rfl h1 h2 hl hl2 hc2 hcc
    rw [← right_same] at h2
    have hRR : rightB vs es = true → RightP vs es := rightB_P
    generalize rightB vs es = r at h1 h2 hRR
    cases r
    · go_enter Try.func5, Try.ntmps5
      have tk0 : True := trivial
      go_wp2_with (first
        | (go_at_call 12; (with_reducible refine (hfw _).mono ?_); rintro e w3 ⟨rfl, hb⟩; replace H := H.ext hb; clear hb; dsimp only; (skip))
        | (go_at_call 13; (with_reducible refine (awake16_any _).mono ?_); rintro e w3 ⟨rfl, hb⟩; replace H := H.ext hb; clear hb; dsimp only; (skip))
        | (go_at_call 15; (with_reducible refine (plain16_any _ _ _ _ _ _ _).mono ?_); rintro e w3 ⟨rfl, hb⟩; replace H := H.ext hb; clear hb; dsimp only; (skip))
        | (go_at_call 23; (with_reducible refine (h1 (FW F0 _) _ (by exact H.giveRd m2 f0) (by exact H.giveRd m1 f9) (H.fw_lt rfl hFF)).mono ?_); rintro e w3 ⟨A3, c3, rfl, hb, s3, q3, q4⟩; replace H := H.ext hb; clear hb; obtain ⟨b3, o3, H4, f3⟩ := H.addSl s3; clear H s3; have H := H4; clear H4; dsimp only; (skip))
        | (go_at_call 16; (with_reducible refine (h2 _ _ (by exact H.giveRd m3 f0) (by exact H.giveRd m2 f9)).mono ?_); rintro e w3 ⟨rfl, hb⟩; replace H := H.ext hb; clear hb; dsimp only; (skip))
        | (guard_target =~ wpList _ _ _ (_ :: _) _ _; (first | (guard_target =~ wpList _ _ _ (Oper.mk _ (.load _ _) _ _ _ _ :: _) _ _; refine BigFrame.wpList_want rfl (fun K hK => ?_); (refine o_loadNC (row := ?_) rfl rfl H ?_ ?_ ?_ (hK _ _ ?_); rotate_left 1; (repeat first | exact .head _ | apply List.Mem.tail); (focus (intro _; simp; done)); (focus (intro _; simp; done))); clear hK K) | ((guard_target =~ wpList _ _ _ (Oper.mk _ (.box _ _) _ _ _ _ :: _) _ _; refine BigFrame.wpList_want rfl (fun K hK => ?_); refine o_box rfl H rfl (fun w3 b2 he H2 => hK _ _ ?_)); clear hK K he; clear H; (try clear w2); revert w3; intro w2 H; simp [Act.eval, Value.cells, setL, List.getD] at H; (clear tk0; rename Nat => b1))); simp only [Act.put, List.setIfInBounds_toArray, List.set_cons_succ, List.set_cons_zero]))
      exact bodyPost_ret (v := .bool true) (by simp [results, Try.results5]) rfl ⟨rfl, H.below⟩
    · have HR := Lib.hid (hRR rfl)
      clear hRR
      have h3 := fun F w h1 h2 hF => rout_any vs es A A2 vs.length es.length c c2 F id w HR.out rfl rfl h1 h2 hF
      have hL : (outZ vs es id).length ≤ 1000000 := Nat.le_trans (outZ_len _ _ _) (Nat.le_trans (few_halves HR.out) (by omega))
      simp only [if_true] at h1
      generalize outZ vs es id = L at h1 h3 hL
      have hsm := fun F w A A2 n m c c2 (hn : n = L.length) (hm : m = L.length) h h' => same_any L L A A2 n m c c2 F w hn hm h h' (by omega) (by omega)
      simp only [decide_true] at hsm
      go_enter Try.func5, Try.ntmps5
      have tk0 : True := trivial
      go_wp2_with (first
        | (go_at_call 12; (with_reducible refine (hfw _).mono ?_); rintro e w3 ⟨rfl, hb⟩; replace H := H.ext hb; clear hb; dsimp only; (skip))
        | (go_at_call 13; (with_reducible refine (awake16_any _).mono ?_); rintro e w3 ⟨rfl, hb⟩; replace H := H.ext hb; clear hb; dsimp only; (skip))
        | (go_at_call 15; (with_reducible refine (plain16_any _ _ _ _ _ _ _).mono ?_); rintro e w3 ⟨rfl, hb⟩; replace H := H.ext hb; clear hb; dsimp only; (skip))
        | (go_at_call 23; (with_reducible refine (h1 (FW F0 _) _ (by exact H.giveRd m2 f0) (by exact H.giveRd m1 f9) (H.fw_lt rfl hFF)).mono ?_); rintro e w3 ⟨A3, c3, rfl, hb, s3, q3, q4⟩; replace H := H.ext hb; clear hb; obtain ⟨b3, o3, H4, f3⟩ := H.addSl s3; clear H s3; have H := H4; clear H4; dsimp only; (skip))
        | (go_at_call 16; (with_reducible refine (h2 _ _ (by exact H.giveRd m3 f0) (by exact H.giveRd m2 f9)).mono ?_); rintro e w3 ⟨rfl, hb⟩; replace H := H.ext hb; clear hb; dsimp only; (skip))
        | (go_at_call 24; (with_reducible refine (h3 (FW F0 _) _ (by exact H.giveRd m3 f0) (by exact H.giveRd m2 f9) (H.fw_lt rfl hFF)).mono ?_); rintro e w3 ⟨A4, c4, rfl, hb, s4, q5, q6⟩; replace H := H.ext hb; clear hb; obtain ⟨b4, o4, H4, f4⟩ := H.addSl s4; clear H s4; have H := H4; clear H4; dsimp only; (skip))
        | (go_at_call 18; (with_reducible refine (hsm _ _ _ _ _ _ _ _ rfl rfl (by exact H.giveRd m1 f3) (by exact H.giveRd m0 f4)).mono ?_); rintro e w3 ⟨rfl, hb⟩; replace H := H.ext hb; clear hb; dsimp only; (skip))
        | (guard_target =~ wpList _ _ _ (_ :: _) _ _; (first | (guard_target =~ wpList _ _ _ (Oper.mk _ (.load _ _) _ _ _ _ :: _) _ _; refine BigFrame.wpList_want rfl (fun K hK => ?_); (refine o_loadNC (row := ?_) rfl rfl H ?_ ?_ ?_ (hK _ _ ?_); rotate_left 1; (repeat first | exact .head _ | apply List.Mem.tail); (focus (intro _; simp; done)); (focus (intro _; simp; done))); clear hK K) | ((guard_target =~ wpList _ _ _ (Oper.mk _ (.box _ _) _ _ _ _ :: _) _ _; refine BigFrame.wpList_want rfl (fun K hK => ?_); refine o_box rfl H rfl (fun w3 b2 he H2 => hK _ _ ?_)); clear hK K he; clear H; (try clear w2); revert w3; intro w2 H; simp [Act.eval, Value.cells, setL, List.getD] at H; (clear tk0; rename Nat => b1))); simp only [Act.put, List.setIfInBounds_toArray, List.set_cons_succ, List.set_cons_zero]))
      exact bodyPost_ret (v := .bool true) (by simp [results, Try.results5]) rfl ⟨rfl, H.below⟩
end Go.Proofs.Ytlhmjhildlnokaa

/-
  Lists of halves that stand in a list: a resource that is read. No walk stands here.
-/
namespace Go.Proofs.Ytlhmjhildlnokaa
set_option linter.unusedVariables false
set_option linter.unusedSimpArgs false
open Go.RowKit

def RsP (hs : List Value) (rs : List (List Hf)) (w : World) : Prop := ∀ (i : Nat) (r : List Hf), rs[i]? = some r → ∃ A c, hs[i]? = some (Value.slice A r.length c) ∧ Sl (fun _ => False) w A (hR r)
def rsFoot (hs : List Value) (rs : List (List Hf)) (k : Nat) : Prop := ∃ (i : Nat) (r : List Hf) (off c : Nat), rs[i]? = some r ∧ 0 < (hR r).length ∧ hs[i]? = some (Value.slice (some ⟨k, off, none⟩) r.length c)
def RsR (hs : List Value) (rs : List (List Hf)) : Res := .any true (rsFoot hs rs) (RsP hs rs)
variable {B : Nat} {w0 w : World} {l : List Res} {hs : List Value} {rs : List (List Hf)} {F : Nat → Prop}
theorem rsP_keeps (h : RsP hs rs w) : (RsR hs rs).holds w := by
  intro w' hw i r hr
  obtain ⟨A, c, h1, b, off, h2, h3⟩ := h i r hr
  refine ⟨A, c, h1, b, off, fun hp => ?_, fun j v hv => ?_⟩
  · obtain ⟨rfl, h4, h5⟩ := h2 hp
    refine ⟨rfl, ?_, h5⟩
    have := hw b ⟨i, r, off, c, hr, hp, h1⟩
    exact Decidable.byContradiction fun q => by
      rw [Array.getElem?_eq_none (by omega), Array.getElem?_eq_getElem h4] at this
      cases this
  · have hp : 0 < (hR r).length := Nat.lt_of_le_of_lt (Nat.zero_le _) (List.getElem?_eq_some_iff.1 hv).1
    obtain ⟨rfl, h4, h5⟩ := h2 hp
    rw [World.cell?_of_block (w := w) (hw b ⟨i, r, off, c, hr, hp, h1⟩)]
    exact h3 j v hv
theorem Own.addRs (H : Own B w0 w l) (h : ∀ (i : Nat) (r : List Hf), rs[i]? = some r → ∃ A c, hs[i]? = some (Value.slice A r.length c) ∧ Sl (FW F l) w A (hR r)) : Own B w0 w (RsR hs rs :: l) := by
  have blk : ∀ k, rsFoot hs rs k → k < w.heap.size ∧ ¬ FW F l k := fun k ⟨i, r, off, c, h1, h2, h3⟩ => by
    obtain ⟨A, c', h4, b, off', h5, _⟩ := h i r h1
    rw [h3] at h4
    injection h4 with h4
    injection h4 with h4 _ _
    obtain ⟨h6, h7, h8⟩ := h5 h2
    rw [← h4] at h6
    injection h6 with h6
    injection h6 with h6 _ _
    subst h6
    exact ⟨h7, h8⟩
  refine H.add _ (rsP_keeps fun i r hr => ?_) (fun k hk => ⟨(blk k hk).1, fun q => by cases q⟩) (fun r' hr' => ?_)
  · obtain ⟨A, c, h1, h2⟩ := h i r hr
    exact ⟨A, c, h1, h2.fewer fun _ q => q.elim⟩
  · cases hro : r'.ro with
    | true => exact .inl ⟨rfl, rfl⟩
    | false => exact .inr fun k hk hk' => (blk k hk).2 (.inr ⟨r', hr', hro, hk'⟩)
theorem Own.giveRs (H : Own B w0 w l) (hm : RsR hs rs ∈ l) : RsP hs rs w := H.holds _ hm w fun _ _ => rfl
/-- The parts of an answer that is a list of lists. -/
theorem Own.addRet {A : Option Addr} (H : Own B w0 w l) (h1 : Sl (FW F l) w A hs) (h2 : ∀ (i : Nat) (r : List Hf), rs[i]? = some r → ∃ Ai ci, hs[i]? = some (Value.slice Ai r.length ci) ∧ Sl (FW F l) w Ai (hR r)) : ∃ b off, Own B w0 w (RsR hs rs :: .rd A b off hs :: l) := by
  obtain ⟨b, off, H2, _⟩ := H.addSl h1
  exact ⟨b, off, H2.addRs (F := F) fun i r hr => by
    obtain ⟨A', c, h3, h4⟩ := h2 i r hr
    exact ⟨A', c, h3, h4.cons_ro _ rfl⟩⟩
end Go.Proofs.Ytlhmjhildlnokaa

/-
  The walk of SpinRings.
-/
namespace Go.Proofs.Ytlhmjhildlnokaa
set_option linter.unusedVariables false
set_option linter.unusedSimpArgs false
open Go.RowKit

theorem rs_sl {hs : List Value} {rs : List (List Hf)} {w : World} {j n c : Nat} {r : List Hf} {A : Option Addr} (h : RsP hs rs w) (hr : rs[j]? = some r) (he : hs[j]? = some (Value.slice A n c)) : Sl (fun _ => False) w A (hR r) := by
  obtain ⟨A', c', h1, h2⟩ := h j r hr
  rw [he] at h1
  injection h1 with h1
  injection h1 with h1 _ _
  rw [h1]; exact h2
theorem sl_pos {F : Nat → Prop} {w : World} {A : Option Addr} {xs : List Value} : 0 < xs.length → Sl F w A xs → ∃ b o, A = some ⟨b, o, none⟩ := fun hp ⟨b, o, h, _⟩ => ⟨b, o, (h hp).1⟩
set_option maxRecDepth 200000 in
set_option maxHeartbeats 16000000 in
theorem law_SpinRings (A A2 : Option Addr) (c c2 : Nat) (vs : List Vt) (es : List Eg) (w : World) (hp : PlArg w A A2 c c2 vs es) :
    Calls Try.prog 3 #[.agg #[.slice A vs.length c, .slice A2 es.length c2]] w fun e w' => e = .returned (.bool true) ∧ Below w.heap.size w w' := by
  obtain ⟨hs, hs2, hcv, hce, _, _⟩ := hp
  obtain ⟨F0, hF0⟩ : ∃ F0 : Nat → Prop, F0 = fun _ => False := ⟨_, rfl⟩
  have hFF : ∀ k, F0 k → k < w.heap.size := fun k h => by rw [hF0] at h; exact h.elim
  rw [← hF0] at hs hs2
  clear hF0
  obtain ⟨b0, o0, H1, f0⟩ := (Own.start w).addSl (hs.ro (by rfl))
  obtain ⟨b9, o9, H, f9⟩ := H1.addSl (hs2.ro (by rfl))
  clear hs hs2 H1
  have hfw := few16_any A A2 vs.length es.length c c2
  obtain ⟨v0, hv0⟩ : ∃ v, (decide (vs.length ≤ 40) && decide (es.length ≤ 40)) = v := ⟨_, rfl⟩
  rw [hv0] at hfw
  cases v0
  · clear hv0
    go_enter Try.func3, Try.ntmps3
    have tk0 : True := trivial
    go_wp2_with (first
      | (go_at_call 12; (with_reducible refine (hfw _).mono ?_); rintro e w3 ⟨rfl, hb⟩; replace H := H.ext hb; clear hb; dsimp only; (skip))
      | (go_at_call 13; (with_reducible refine (awake16_any _).mono ?_); rintro e w3 ⟨rfl, hb⟩; replace H := H.ext hb; clear hb; dsimp only; (skip))
      | (guard_target =~ wpList _ _ _ (_ :: _) _ _; (first | (guard_target =~ wpList _ _ _ (Oper.mk _ (.load _ _) _ _ _ _ :: _) _ _; refine BigFrame.wpList_want rfl (fun K hK => ?_); (refine o_loadNC (row := ?_) rfl rfl H ?_ ?_ ?_ (hK _ _ ?_); rotate_left 1; (repeat first | exact .head _ | apply List.Mem.tail); (focus (intro _; simp; done)); (focus (intro _; simp; done))); clear hK K) | ((guard_target =~ wpList _ _ _ (Oper.mk _ (.box _ _) _ _ _ _ :: _) _ _; refine BigFrame.wpList_want rfl (fun K hK => ?_); refine o_box rfl H rfl (fun w3 b2 he H2 => hK _ _ ?_)); clear hK K he; clear H; (try clear w2); revert w3; intro w2 H; simp [Act.eval, Value.cells, setL, List.getD] at H; (clear tk0; rename Nat => b1))); simp only [Act.put, List.setIfInBounds_toArray, List.set_cons_succ, List.set_cons_zero]))
    go_ret
    exact ⟨rfl, H.below⟩
  · have hl : vs.length ≤ 1000000 := by simp at hv0; omega
    have hl2 : es.length ≤ 1000000 := by simp at hv0; omega
    clear hv0
    have hc2 := hce.1
    have hcc := hce.2
    have h1 := fun F w h1 h2 hF => srings_any vs es A A2 vs.length es.length c c2 F w rfl rfl h1 h2 hF hl hl2 hc2 hcc
    have h2 := fun F w h1 h2 => refRight_any vs es A A2 vs.length es.length c c2 F w rfl rfl h1 h2 hl hl2 hc2 hcc
    rw [← right_same] at h2
    have hRR : rightB vs es = true → RightP vs es := rightB_P
    generalize rightB vs es = r at h1 h2 hRR
    cases r
    · simp only [Bool.false_eq_true, if_false] at h1
      go_enter Try.func3, Try.ntmps3
      have tk0 : True := trivial
      go_wp2_with (first
        | (go_at_call 12; (with_reducible refine (hfw _).mono ?_); rintro e w3 ⟨rfl, hb⟩; replace H := H.ext hb; clear hb; dsimp only; (skip))
        | (go_at_call 13; (with_reducible refine (awake16_any _).mono ?_); rintro e w3 ⟨rfl, hb⟩; replace H := H.ext hb; clear hb; dsimp only; (skip))
        | (go_at_call 15; (with_reducible refine (plain16_any _ _ _ _ _ _ _).mono ?_); rintro e w3 ⟨rfl, hb⟩; replace H := H.ext hb; clear hb; dsimp only; (skip))
        | (go_at_call 14; (with_reducible refine (h1 (FW F0 _) _ (by exact H.giveRd m2 f0) (by exact H.giveRd m1 f9) (H.fw_lt rfl hFF)).mono ?_); rintro e w3 ⟨A3, c3, hs3, rfl, hb, s3, g3, a3, q3, q4⟩; replace H := H.ext hb; clear hb; obtain ⟨b3, o3, H4⟩ := H.addRet s3 a3; replace H := H4; clear H4 s3 a3; dsimp only; (skip))
        | (go_at_call 16; (with_reducible refine (h2 _ _ (by exact H.giveRd m4 f0) (by exact H.giveRd m3 f9)).mono ?_); rintro e w3 ⟨rfl, hb⟩; replace H := H.ext hb; clear hb; dsimp only; (skip))
        | (guard_target =~ wpList _ _ _ (_ :: _) _ _; (first | (guard_target =~ wpList _ _ _ (Oper.mk _ (.load _ _) _ _ _ _ :: _) _ _; refine BigFrame.wpList_want rfl (fun K hK => ?_); (refine o_loadNC (row := ?_) rfl rfl H ?_ ?_ ?_ (hK _ _ ?_); rotate_left 1; (repeat first | exact .head _ | apply List.Mem.tail); (focus (intro _; simp; done)); (focus (intro _; simp; done))); clear hK K) | ((guard_target =~ wpList _ _ _ (Oper.mk _ (.box _ _) _ _ _ _ :: _) _ _; refine BigFrame.wpList_want rfl (fun K hK => ?_); refine o_box rfl H rfl (fun w3 b2 he H2 => hK _ _ ?_)); clear hK K he; clear H; (try clear w2); revert w3; intro w2 H; simp [Act.eval, Value.cells, setL, List.getD] at H; (clear tk0; rename Nat => b1))); simp only [Act.put, List.setIfInBounds_toArray, List.set_cons_succ, List.set_cons_zero]))
      exact bodyPost_ret (v := .bool true) (by simp [results, Try.results3]) rfl ⟨rfl, H.below⟩
    · have HR := Lib.hid (hRR rfl)
      clear hRR
      simp only [if_true] at h1
      have h3 := fun F w h1 h2 hF => rrings_any vs es A A2 vs.length es.length c c2 F w HR.out rfl rfl h1 h2 hF
      have hfew : (ringsZ vs es).length ≤ 2048 := Nat.le_trans (rings_few (rings_of (next_one HR.out) (halves es) fun _ h => h)) (few_halves HR.out)
      have hlen : ∀ (i : Nat) r, (ringsZ vs es)[i]? = some r → r.length ≤ 2048 := fun i r hr => by
        obtain ⟨h, P⟩ := (rings_of (next_one HR.out) (halves es) fun _ h => h).each r (List.mem_of_getElem? hr)
        exact Nat.le_trans (nodup_len P.nodup P.sub) (few_halves HR.out)
      generalize ringsZ vs es = rs at h1 h3 hfew hlen
      have HLEN := Lib.hid hlen
      clear hlen
      go_enter Try.func3, Try.ntmps3
      have tk0 : True := trivial
      go_wp2_with (first
        | (go_at_call 12; (with_reducible refine (hfw _).mono ?_); rintro e w3 ⟨rfl, hb⟩; replace H := H.ext hb; clear hb; dsimp only; (skip))
        | (go_at_call 15; (with_reducible refine (plain16_any _ _ _ _ _ _ _).mono ?_); rintro e w3 ⟨rfl, hb⟩; replace H := H.ext hb; clear hb; dsimp only; (skip))
        | (go_at_call 14; (with_reducible refine (h1 (FW F0 _) _ (by exact H.giveRd m2 f0) (by exact H.giveRd m1 f9) (H.fw_lt rfl hFF)).mono ?_); rintro e w3 ⟨A3, c3, hs3, rfl, hb, s3, g3, a3, q3, q4⟩; replace H := H.ext hb; clear hb; obtain ⟨b3, o3, H4⟩ := H.addRet s3 a3; replace H := H4; clear H4 s3 a3; dsimp only; (skip))
        | (go_at_call 16; (with_reducible refine (h2 _ _ (by exact H.giveRd m4 f0) (by exact H.giveRd m3 f9)).mono ?_); rintro e w3 ⟨rfl, hb⟩; replace H := H.ext hb; clear hb; dsimp only; (skip))
        | (go_at_call 17; (with_reducible refine (h3 (FW F0 _) _ (by exact H.giveRd m4 f0) (by exact H.giveRd m3 f9) (H.fw_lt rfl hFF)).mono ?_); rintro e w3 ⟨A4, c4, hs4, rfl, hb, s4, g4, a4, q5, q6⟩; replace H := H.ext hb; clear hb; obtain ⟨b4, o4, H4⟩ := H.addRet s4 a4; replace H := H4; clear H4 s4 a4; dsimp only; (skip))
        | (guard_target =~ wpList _ _ _ (_ :: _) _ _; (first | (guard_target =~ wpList _ _ _ (Oper.mk _ (.load _ _) _ _ _ _ :: _) _ _; refine BigFrame.wpList_want rfl (fun K hK => ?_); (refine o_loadNC (row := ?_) rfl rfl H ?_ ?_ ?_ (hK _ _ ?_); rotate_left 1; (repeat first | exact .head _ | apply List.Mem.tail); (focus (intro _; simp; done)); (focus (intro _; simp; done))); clear hK K) | ((guard_target =~ wpList _ _ _ (Oper.mk _ (.box _ _) _ _ _ _ :: _) _ _; refine BigFrame.wpList_want rfl (fun K hK => ?_); refine o_box rfl H rfl (fun w3 b2 he H2 => hK _ _ ?_)); clear hK K he; clear H; (try clear w2); revert w3; intro w2 H; simp [Act.eval, Value.cells, setL, List.getD] at H; (clear tk0; rename Nat => b1))); simp only [Act.put, List.setIfInBounds_toArray, List.set_cons_succ, List.set_cons_zero]))
      generalize hN : rs.length = n at hfew ⊢
      have HN := Lib.hid hN
      have HG3 := Lib.hid g3
      have HG4 := Lib.hid g4
      clear hN g3 g4
      go_loopg [5] n (fun k i wr => k ≤ n ∧ i = .int .i64 ((n - k : Nat) : Int) ∧ Own w.heap.size w wr [RsR hs4 rs, .rd A4 b4 o4 hs4, RsR hs3 rs, .rd A3 b3 o3 hs3, .cells b1 [.slice A vs.length c, .slice A2 es.length c2], .rd A2 b9 o9 (eR es), .rd A b0 o0 (vR vs)])
      case atStart => exact ⟨Nat.le_refl _, by simp, H⟩
      case round =>
        clear H
        obtain ⟨hk, rfl, H⟩ := hrel
        by_cases hlt : 0 < gk
        · obtain ⟨j, hj⟩ : ∃ j, n - gk = j := ⟨_, rfl⟩
          have hjl : j < n := by omega
          rw [hj]
          obtain ⟨r, hr⟩ : ∃ r, rs[j]? = some r := ⟨_, List.getElem?_eq_getElem (by have := HN.out; omega)⟩
          have hrl := HLEN.out j r hr
          obtain ⟨A5, c5, e5, s5⟩ := H.giveRs m2 j r hr
          obtain ⟨A6, c6, e6, s6⟩ := H.giveRs m0 j r hr
          obtain rfl := H.rdAddr m3 (Nat.lt_of_le_of_lt (Nat.zero_le _) (List.getElem?_eq_some_iff.1 e5).1)
          obtain rfl := H.rdAddr m1 (Nat.lt_of_le_of_lt (Nat.zero_le _) (List.getElem?_eq_some_iff.1 e6).1)
          have p1 := at_rd (A := some ⟨b3, o3, none⟩) (b := b3) (off := o3) e5
          have p2 := at_rd (A := some ⟨b4, o4, none⟩) (b := b4) (off := o4) e6
          have hsm := fun w h h' => same_any r r A5 A6 r.length r.length c5 c6 (fun _ => False) w rfl rfl h h' (by omega) (by omega)
          simp only [decide_true] at hsm
          have HE5 := Lib.hid e5
          have HE6 := Lib.hid e6
          have HRr := Lib.hid hr
          have HJ := Lib.hid hj
          clear hr hrl e5 e6 s5 s6 hj
          go_wp2_with (first
            | (guard_target =~ Code.wp _ (Code.region 12 _ true) _ _ _; refine region_treeC0 12 (G := True) (.q 0 (.q 1 (.q 2 (.q 3 (.q 4 (.q 5 (.q 6 (.q 7 (.q 8 (.q 9 .nil)))))))))) (by kernel_rfl) (by intro c a d v w h; cases d <;> exact h) (by kernel_rfl) H ⟨trivial⟩ (fun _ w3 H2 => ?_); (clear H; (try clear w2); revert w3; intro w2 H))
            | (guard_target =~ wpTreeC _ _ _ _ _ _ _; first | (guard_target =~ wpTreeC _ _ _ (Tr.e _ Tr.nil) _ _ _; refine treeC_last (by decide +kernel) H rfl rfl (fun w3 H2 K hK => ?_); clear H; (try clear w2); (revert w3; intro w2 H); simp only [List.getElem_toArray, List.getElem_cons_succ, List.getElem_cons_zero]; (first | fail); simp only [Act.put, List.setIfInBounds_toArray, List.set_cons_succ, List.set_cons_zero]) | (guard_target =~ wpTreeC _ _ _ (Tr.q _ _) _ _ _; first | (refine treeC_quiet ⟨_, H, by repeat first | exact .here | apply Suf.there⟩ rfl rfl rfl (fun K hK => ?_); simp only [List.getElem_toArray, List.getElem_cons_succ, List.getElem_cons_zero]; first | (guard_target =~ Oper.quiet _ (Oper.mk _ (.load _ _) _ _ _ _) _ _ _; (refine q_load (v := ?_) (r := ?_) rfl rfl ?_ ?_ ?_ (hK _ ?_); rotate_left 2; (with_reducible assumption); (repeat first | exact .head _ | apply List.Mem.tail); (focus (intro _; simp; done))); clear hK K; simp only [Act.put, List.setIfInBounds_toArray, List.set_cons_succ, List.set_cons_zero]) | (go_big_quiet_op; (try refine ⟨_, fun _ _ => rfl, ?_⟩); refine hK _ ?_; clear hK K)) | (refine treeC_call (v := ?_) ⟨_, H, by repeat first | exact .here | apply Suf.there⟩ rfl rfl (fun w3 H K hK => ?_) ?_; rotate_left 1; (focus (simp only [List.getElem_toArray, List.getElem_cons_succ, List.getElem_cons_zero]; first | (go_big_op; first | exact hK _ (Ext.refl _) | (go_at_call 18; (with_reducible refine (hsm _ (rs_sl (H.giveRs m2) HRr.out HE5.out) (rs_sl (H.giveRs m0) HRr.out HE6.out)).mono ?_); rintro e w3 ⟨rfl, hb⟩; dsimp only; first | exact hK _ hb | exact hK _ (Ext.refl _))))); simp only [List.getElem_toArray, List.getElem_cons_succ, List.getElem_cons_zero, Act.put, List.setIfInBounds_toArray, List.set_cons_succ, List.set_cons_zero]) | (refine treeC_skip ⟨_, H, by repeat first | exact .here | apply Suf.there⟩ rfl rfl ?_; simp only [List.getElem_toArray, List.getElem_cons_succ, List.getElem_cons_zero, Act.put, List.setIfInBounds_toArray, List.set_cons_succ, List.set_cons_zero])) | (guard_target =~ wpTreeC _ _ _ (Tr.both _ _) _ _ _; refine treeC_both ?_ ?_) | (guard_target =~ wpTreeC _ _ _ (Tr.e _ _) _ _ _; first | (refine treeC_one H rfl rfl (fun w3 H2 K hK => ?_); clear H; (try clear w2); (revert w3; intro w2 H); simp only [List.getElem_toArray, List.getElem_cons_succ, List.getElem_cons_zero]; first | ((first | fail); simp only [Act.put, List.setIfInBounds_toArray, List.set_cons_succ, List.set_cons_zero]) | (go_big_op; (first | fail))) | (refine treeC_one_skip (fun w3 hx => ⟨_, H.ext hx, by repeat first | exact .here | apply Suf.there⟩) rfl rfl (fun w3 hx => ?_); replace H := H.ext hx; clear hx; (try clear w2); revert w3; intro w2 H; simp only [List.getElem_toArray, List.getElem_cons_succ, List.getElem_cons_zero, Act.put, List.setIfInBounds_toArray, List.set_cons_succ, List.set_cons_zero])) | (guard_target =~ wpTreeC _ _ _ Tr.nil _ _ _; refine treeC_nil H (fun w3 H2 => ?_); clear H; (try clear w2); revert w3; intro w2 H)))
          go_roundg (gk - 1)
          case rel => exact ⟨by omega, by have := HJ.out; congr 1; omega, H⟩
          case measure => omega
        · obtain rfl : gk = 0 := by omega
          go_wp2_with (go_at_call 13; (with_reducible refine (awake16_any _).mono ?_); rintro e w3 ⟨rfl, hb⟩; replace H := H.ext hb; clear hb; dsimp only; (skip))
          exact bodyPost_ret (v := .bool true) (by simp [results, Try.results3]) rfl ⟨rfl, H.below⟩
end Go.Proofs.Ytlhmjhildlnokaa

/-
  Two closed facts of a seat's program.
-/
namespace Go.Proofs.Ytlhmjhildlnokaa
theorem Try.own0 : ownKnob Try.prog.godebug = none := by kernel_rfl
theorem Try.laidOut : laidOutB Try.prog = true := by kernel_rfl
end Go.Proofs.Ytlhmjhildlnokaa

/-
  An argument that is an array of four integers. Nothing of the program stands here.
-/
namespace Go.Proofs.Ytlhmjhildlnokaa
set_option linter.unusedVariables false
open Go.RowKit Go.WideShapes Go.ChangeShapes
section
variable {H : Type} {enc : TypeId × Value → H} {P : Program} {w : World} {base : Nat} {spare : Nat → Bool} {held : Bool}
theorem open_arr4 {r : Reach} {b0 : Nat} {t e : TypeId} {q : IntKind} {v : Value} {d : DataW H} {p : List MemPlace} (hu : P.underlying t = some (.array 4 e)) (he : P.underlying e = some (.int q)) (hc : P.cellsOf e = 1) (hC : P.cellsOf t = 4)
    (hv : Value.okWide P w r b0 t v) (h : DataW.Trod enc P w base spare held t v d p) :
    ∃ a b c x : Int, v = .agg #[.int q a, .int q b, .int q c, .int q x] ∧ (Lit.int q a).wf = true ∧ (Lit.int q b).wf = true ∧ (Lit.int q c).wf = true ∧ (Lit.int q x).wf = true := by
  simp only [Value.okWide, hu] at hv
  obtain ⟨cs, rfl, hsz, _⟩ := hv
  rw [hC] at hsz
  obtain ⟨c0, c1, c2, c3, rfl⟩ : ∃ c0 c1 c2 c3, cs = #[c0, c1, c2, c3] := by
    obtain ⟨l⟩ := cs
    match l, hsz with
    | [c0, c1, c2, c3], _ => exact ⟨c0, c1, c2, c3, rfl⟩
  obtain ⟨fuel, hf⟩ := h
  cases fuel with
  | zero => simp [DataW.trod] at hf
  | succ m =>
    rw [DataW.trod_step] at hf
    unfold DataW.trodStep at hf
    simp only [hu, Value.cells] at hf
    rw [if_pos (by rw [hC]; rfl), hc] at hf
    simp only [Option.map_eq_some_iff] at hf
    obtain ⟨ys, hy, _⟩ := hf
    have hr : List.range 4 = [0, 1, 2, 3] := rfl
    rw [hr] at hy
    simp only [List.mapM_cons, bind, Option.bind_eq_some_iff] at hy
    obtain ⟨y0, h0, _, ⟨y1, h1, _, ⟨y2, h2, _, ⟨y3, h3, _⟩, _⟩, _⟩, _⟩ := hy
    obtain ⟨a, ea, _, wa⟩ := DataW.trod_int he h0
    obtain ⟨b, eb, _, wb⟩ := DataW.trod_int he h1
    obtain ⟨c, ec, _, wc⟩ := DataW.trod_int he h2
    obtain ⟨x, ex, _, wx⟩ := DataW.trod_int he h3
    simp at ea eb ec ex
    subst ea eb ec ex
    exact ⟨a, b, c, x, rfl, wa, wb, wc, wx⟩
end
end Go.Proofs.Ytlhmjhildlnokaa

/-
  The statement SpinRings, proved: for every input the law answers true, and each argument reads behind the call as it did. No condition.
-/
namespace Go.Proofs.Ytlhmjhildlnokaa
namespace spinRings
open Go.ChangeShapes Go.WideShapes Go.ChangeAt Go.RowKit
open Go.ChangeMaps (open_string)
set_option maxRecDepth 100000 in
theorem lifted (os : Os) (started : os.Started) (H : Type) (enc : TypeId × Value → H) :
    ReturnsInHanded {} Try.checked os 3 .any (Rows.spinRingsSpec.pre6 enc Try.prog Try.f3 Rows.spinRingsRow.domain false) (Rows.spinRingsSpec.post enc Try.prog Try.f3 false true false false) := by
  refine returnsInHanded_of_change (C := Try.checked) Try.own0 started (by kernel_rfl) Try.func3
    (ChangeSpec.witness6 (enc := enc) (C := Try.checked) false ⟨#[], #[.agg #[.slice none 0 0, .slice none 0 0]], []⟩ 8 (by kernel_rfl) (by kernel_rfl) (by kernel_rfl) (by kernel_rfl)) ?_
  intro W base args ds gs before hval0 hW _ _
  have hval : ∀ (j : Nat) t v, Try.f3.params[j]? = some t → args[j]? = some v → Value.okWide Try.prog W .any base t v := hval0
  refine law_calls Try.laidOut (by kernel_rfl) rfl rfl Try.underlying4 (fun ds h => by match ds, h with | [_], _ => rfl) hW ?_
  obtain ⟨p, q, hA0, _, _, _, _⟩ := hW
  have hA : DataW.TrodAll enc Try.prog W 0 (fun _ => true) true Try.f3.params.toList args.toList ds p := hA0
  rw [Try.params3] at hA hval
  obtain ⟨v0, vs0, d0, ds0, p0, q0, hargs, rfl, rfl, h0, r0⟩ := trodAll_cons hA
  obtain ⟨rfl, rfl, rfl⟩ := trodAll_nil r0
  obtain rfl : args = #[v0] := by cases args; simp_all
  obtain ⟨A0, B0, c0, e0, vs0_, es0_, rfl, pl0⟩ := open_plan (hval 0 25 v0 rfl rfl) h0
  exact law_SpinRings A0 B0 c0 e0 vs0_ es0_ W pl0
set_option maxRecDepth 100000 in
set_option maxHeartbeats 4000000 in
theorem closed : joinedFacts Try.pinned.checked.prog 3 Try.f3 Rows.spinRingsSpec Rows.spinRingsRow = true := by
  have key : ∀ P : Program, P = Try.pinned.checked.prog → joinedFacts P 3 Try.f3 Rows.spinRingsSpec Rows.spinRingsRow = true := by
    intro P hP
    unfold joinedFacts
    simp only [Bool.and_eq_true]
    repeat' apply And.intro
    all_goals first
      | (guard_target =~ Program.mayEnter _ = true; rw [hP]; exact may_enter)
      | (guard_target =~ (_ == Program.liftsFinal _) = true; rw [hP, lifts_final]; rfl)
      | (guard_target =~ (Program.make _ == _) = true; rw [hP, make_cut]; rfl)
      | (rw [hP]; as_aux_lemma => kernel_rfl)
      | (as_aux_lemma => kernel_rfl)
  exact key _ rfl
theorem over : Rows.spinRingsRow.holds Try.pinned (OpenSpec.ofChange Rows.spinRingsSpec) :=
  OpenClaim.holds_of_wide 3 Try.f3 rfl rfl rfl rfl rfl rfl rfl ⟨rfl, rfl, rfl, rfl, rfl⟩ rfl rfl rfl rfl rfl (by kernel_rfl) Try.func3 closed
    (of_decide_eq_true (by kernel_rfl)) (by unfold Func.isWrapper; first | (rw [if_pos (by decide +kernel)]; kernel_rfl) | (rw [if_neg (by decide +kernel)]; exact ⟨rfl, rfl⟩))
    (fun os started H enc _ => lifted os started H enc)
theorem proved : Rows.SpinRingsSaid :=
  over
end spinRings
end Go.Proofs.Ytlhmjhildlnokaa
