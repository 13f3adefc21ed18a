/-
  The walks of the document's layer 3: whole numbers below a quotient.
-/
import Derived.Test.YtdgpdafkngoegaaRef03g
import Derived.Test.YtdgpdafkngoegaaRef03p
import Derived.Test.YtdgpdafkngoegaaOwn5
namespace Go.Proofs.Ytdgpdafkngoegaa
set_option linter.unusedVariables false
set_option linter.unusedSimpArgs false
open Go.RowKit

theorem val_mod2 (l : List Nat) : val l % 2 = l.getD 0 0 % 2 := by
  cases l with
  | nil => rfl
  | cons d l => simp only [val, List.getD_cons_zero]; omega
theorem mod_pow_succ (v j : Nat) : v % 2 ^ (j + 1) = v % 2 ^ j + 2 ^ j * (v / 2 ^ j % 2) := by rw [Nat.pow_succ, Nat.mod_mul]
theorem rest_step (v j : Nat) : decide (v % 2 ^ (j + 1) ≠ 0) = (decide (v % 2 ^ j ≠ 0) || decide (v / 2 ^ j % 2 = 1)) := by
  rw [mod_pow_succ]
  have h := Nat.pow_pos (n := j) (show 0 < 2 by omega)
  rcases Nat.mod_two_eq_zero_or_one (v / 2 ^ j) with e | e
  · rw [e]; simp
  · rw [e]; simp <;> omega
theorem floor_plain (x : Int) (m : Nat) : sgn (decide (x < 0)) (x.natAbs / 2 ^ m) + (if decide (x < 0) && decide (x.natAbs % 2 ^ m ≠ 0) then -1 else 0) = x / 2 ^ m := by
  have h := Nat.pow_pos (n := m) (show 0 < 2 by omega)
  have e : ((2 : Int) ^ m) = ((2 ^ m : Nat) : Int) := by simp
  rw [e]
  generalize 2 ^ m = D at *
  have h1 := Nat.div_add_mod x.natAbs D
  have h2 := Nat.mod_lt x.natAbs h
  generalize x.natAbs / D = q at *
  have hD : ((D * q : Nat) : Int) = (D : Int) * (q : Int) := Int.natCast_mul _ _
  generalize hr : x.natAbs % D = r at *
  by_cases hx : x < 0
  · have hx' : x = -((D : Int) * q) - r := by omega
    unfold sgn
    by_cases hr0 : r = 0
    · subst hr0
      have : x = (D : Int) * (-q) := by rw [Int.mul_neg]; omega
      simp only [hx, decide_true, if_true, Bool.true_and, ne_eq, not_true_eq_false, decide_false, Bool.false_eq_true, if_false, Int.add_zero]
      rw [this, Int.mul_ediv_cancel_left _ (by omega)]
    · have : x = ((D : Int) - r) + (D : Int) * (-q - 1) := by rw [Int.mul_sub, Int.mul_neg, Int.mul_one]; omega
      simp only [hx, decide_true, if_true, Bool.true_and, ne_eq, hr0, not_false_eq_true]
      rw [this, Int.add_mul_ediv_left _ _ (by omega), Int.ediv_eq_zero_of_lt (by omega) (by omega)]
      omega
  · have hx' : x = r + (D : Int) * q := by omega
    simp only [hx, decide_false, Bool.false_and, Bool.false_eq_true, if_false, Int.add_zero]
    unfold sgn
    simp only [Bool.false_eq_true, if_false]
    rw [hx', Int.add_mul_ediv_left _ _ (by omega), Int.ediv_eq_zero_of_lt (by omega) (by omega), Int.zero_add]
def FloorRel (F : Nat → Prop) (w : World) (A1 : Option Addr) (b1 o1 c1 d2 d4 : Nat) (s : Bool) (a : List Nat) (v m : Nat) (k : Nat) (l r i : Value) (wr : World) : Prop :=
  ∃ (j : Nat) (A : Option Addr) (c b o : Nat) (d : List Nat), j + k = m ∧ i = .int .i64 (j : Int) ∧ l = .slice A d.length c ∧ r = .bool (decide (v % 2 ^ j ≠ 0)) ∧ CnI d ((v / 2 ^ j : Nat) : Int) ∧ d.length ≤ 450 ∧ d.length ≤ c ∧ c ≤ maxLen ∧ (0 < (dl d).length → ¬ F b) ∧
    Own w.heap.size w wr [.rd A b o (dl d), .cells d4 [.bool false, .slice none 0 0], .cells d2 [.bool s, .slice A1 a.length c1], .rd A1 b1 o1 (dl a)]
set_option maxRecDepth 100000 in
set_option maxHeartbeats 8000000 in
theorem refFloor_any (F : Nat → Prop) (w : World) (hF : ∀ k, F k → k < w.heap.size) (A1 : Option Addr) (c1 : Nat) (a : List Nat) (x : Int) (n m : Nat) (hn : n ≤ 9223372036854775807) (hnm : (n ≤ 300 ∧ m = n) ∨ (300 < n ∧ m = 300)) (ha : Sl F w A1 (dl a)) (ga : CnI a x) (la : a.length ≤ 450) (ma : a.length ≤ c1) (ma2 : c1 ≤ maxLen) :
    Calls Try.prog 48 #[.agg #[.bool (decide (x < 0)), .slice A1 a.length c1], .int .i64 (n : Int)] w (RetN F w (x / 2 ^ m)) := by
  obtain ⟨b1, o1, H, f1⟩ := (Own.start w).addSl (ha.ro (by rfl))
  clear ha
  have hz := floor_plain x m
  have gn := ga.nat
  obtain ⟨v, hv⟩ : ∃ v, x.natAbs = v := ⟨_, rfl⟩
  obtain ⟨s, hs⟩ : ∃ s, decide (x < 0) = s := ⟨_, rfl⟩
  rw [hs, hv] at hz
  rw [hv] at gn
  rw [hs]
  obtain ⟨z, hz2⟩ : ∃ z, x / 2 ^ m = z := ⟨_, rfl⟩
  rw [hz2] at hz ⊢
  have HZ := Lib.hid hz
  clear hs hz hv hz2 ga x
  rcases hnm with ⟨h, hm⟩ | ⟨h, hm⟩
  · subst hm
    go_enter Try.func48, Try.ntmps48
    have tk0 : True := trivial
    have tk1 : True := trivial
    go_wp2_with (guard_target =~ wpList _ _ _ (_ :: _) _ _; (first | (guard_target =~ wpList _ _ _ (Oper.mk _ (.load _ _) _ _ _ _ :: _) _ _; refine BigFrame.wpList_want rfl (fun K hK => ?_); (refine o_loadC (v := ?_) (row := ?_) rfl rfl H ?_ ?_ ?_ (hK _ _ ?_); rotate_left 2; (repeat first | exact .head _ | apply List.Mem.tail); (exact rfl); (focus (intro _; simp; done))); clear hK K) | ((first | (guard_target =~ wpList _ _ _ (Oper.mk _ (.alloc _) _ _ _ _ :: _) _ _; refine BigFrame.wpList_want rfl (fun K hK => ?_); refine o_alloc (z := ?_) rfl ?_ H rfl (fun w3 b2 he H2 => hK _ _ ?_); rotate_left 1; (focus (intro _; simp; with_reducible exact rfl))) | (guard_target =~ wpList _ _ _ (Oper.mk _ (.box _ _) _ _ _ _ :: _) _ _; refine BigFrame.wpList_want rfl (fun K hK => ?_); refine o_box rfl H rfl (fun w3 b2 he H2 => hK _ _ ?_))); clear hK K he; clear H; (try clear w2); revert w3; intro w2 H; simp [Act.eval, Value.cells, setL, List.getD] at H; (first | (clear tk0; rename Nat => d2) | (clear tk1; rename Nat => d4)))); simp only [Act.put, List.setIfInBounds_toArray, List.set_cons_succ, List.set_cons_zero])
    go_loopg [5, 6, 7] m (FloorRel F w A1 b1 o1 c1 d2 d4 s a v m)
    case atStart =>
      refine ⟨0, A1, c1, b1, o1, a, Nat.zero_add _, rfl, rfl, by simp [Nat.mod_one], by simpa using gn, la, ma, ma2, f1, H.copy m2 rfl⟩
    case round =>
      clear H
      obtain ⟨j, A, c, b, o, d, hk, rfl, rfl, rfl, gd, hd, h1, h2, fd, H⟩ := hrel
      by_cases h0 : j < m
      · have hst := rest_step v j
        have hv2 : v / 2 ^ (j + 1) = v / 2 ^ j / 2 := by rw [Nat.pow_succ, Nat.div_div_eq_div_mul]
        have hvd := gd.2.2
        rw [Int.natAbs_natCast] at hvd
        have hm2 := val_mod2 d
        rw [hvd] at hm2
        have gd1 := gd.1
        have HH := fun (F : Nat → Prop) (w : World) hF A ha => half_any F w hF A c d ha gd1 (by omega) h1
        rw [hvd, ← hv2] at HH
        have hlen : ∀ l' : List Nat, CnI l' ((v / 2 ^ (j + 1) : Nat) : Int) → l'.length ≤ 450 := fun l' g' => by
          have : l'.length ≤ d.length := g'.len_of (m := v / 2 ^ j) (by rw [hv2]; exact Nat.div_le_self _ _) (by have := gd.lt; rwa [Int.natAbs_natCast] at this)
          omega
        obtain ⟨r, hr⟩ : ∃ r, decide (v % 2 ^ j ≠ 0) = r := ⟨_, rfl⟩
        rw [hr] at hst ⊢
        obtain ⟨u, hu⟩ : ∃ u, decide (v / 2 ^ j % 2 = 1) = u := ⟨_, rfl⟩
        rw [hu] at hst
        have HST := Lib.hid hst
        cases r with
        | true =>
          clear hst hr hu hm2 hvd hv2
          go_wp2_with (go_at_call 109; (with_reducible refine (HH (FW F _) _ (H.fw_lt rfl hF) _ (H.giveRd m0 fd)).mono ?_); rintro e w3 ⟨A3, c3, l3, rfl, hb, s3, g3, q3, p3⟩; replace H := H.ext hb; clear hb; obtain ⟨b3, o3, H4, f3⟩ := H.addSl s3; clear H s3; have H := H4; clear H4; dsimp only)
          go_roundg (m - (j + 1))
          case rel =>
            refine ⟨j + 1, A3, c3, b3, o3, l3, by omega, by congr 1, rfl, by rw [HST.out]; rfl, g3, hlen l3 g3, q3, p3, f3, H.sub (.cons_cons _ (.cons _ (.refl _)))⟩
          case measure => omega
        | false =>
          by_cases hd0 : 0 < d.length
          · obtain ⟨y, hy, by_, ty⟩ := dig_at hd0 gd.1
            obtain rfl := H.rdAddr m0 (by rw [dl_length]; omega)
            replace ty := ty (some ⟨b, o, none⟩) b o
            rw [Nat.add_zero] at ty
            rw [hy.out] at hm2
            have hb1 : ((y : Int) % 2 == 1) = u := by
              rw [← hu, hm2]
              rw [Bool.eq_iff_iff]; simp; omega
            clear hst hr hu hm2 hvd hv2
            go_wp2_with (first
              | (go_at_call 109; (with_reducible refine (HH (FW F _) _ (H.fw_lt rfl hF) _ (H.giveRd m0 fd)).mono ?_); rintro e w3 ⟨A3, c3, l3, rfl, hb, s3, g3, q3, p3⟩; replace H := H.ext hb; clear hb; obtain ⟨b3, o3, H4, f3⟩ := H.addSl s3; clear H s3; have H := H4; clear H4; dsimp only)
              | (guard_target =~ wpList _ _ _ (_ :: _) _ _; (guard_target =~ wpList _ _ _ (Oper.mk _ (.load _ _) _ _ _ _ :: _) _ _; refine BigFrame.wpList_want rfl (fun K hK => ?_); (refine o_load (v := ?_) (r := ?_) rfl rfl H ?_ ?_ ?_ (hK _ _ ?_); rotate_left 2; (with_reducible assumption); (repeat first | exact .head _ | apply List.Mem.tail); (focus (intro _; simp; done))); clear hK K); simp only [Act.put, List.setIfInBounds_toArray, List.set_cons_succ, List.set_cons_zero]))
            go_roundg (m - (j + 1))
            case rel =>
              refine ⟨j + 1, A3, c3, b3, o3, l3, by omega, by congr 1, rfl, by rw [HST.out, Bool.false_or], g3, hlen l3 g3, q3, p3, f3, H.sub (.cons_cons _ (.cons _ (.refl _)))⟩
            case measure => omega
          · obtain rfl : d = [] := List.length_eq_zero_iff.1 (by omega)
            have hu0 : u = false := by rw [← hu, hm2]; rfl
            have HU := Lib.hid hu0
            have HH : ∀ (F : Nat → Prop) (w : World) (hF : ∀ k, F k → k < w.heap.size) (A : Option Addr) (ha : Sl F w A (dl [])), Calls Try.prog 109 #[.slice A 0 c] w (RetC F w (v / 2 ^ (j + 1))) := HH
            clear hst hr hu hm2 hvd hv2 hu0
            go_wp2_with (go_at_call 109; (with_reducible refine (HH (FW F _) _ (H.fw_lt rfl hF) _ (H.giveRd m0 fd)).mono ?_); rintro e w3 ⟨A3, c3, l3, rfl, hb, s3, g3, q3, p3⟩; replace H := H.ext hb; clear hb; obtain ⟨b3, o3, H4, f3⟩ := H.addSl s3; clear H s3; have H := H4; clear H4; dsimp only)
            go_roundg (m - (j + 1))
            case rel =>
              refine ⟨j + 1, A3, c3, b3, o3, l3, by omega, by congr 1, rfl, by rw [HST.out, HU.out]; rfl, g3, hlen l3 g3, q3, p3, f3, H.sub (.cons_cons _ (.cons _ (.refl _)))⟩
            case measure => omega
      · obtain rfl : j = m := by omega
        have hvd := gd.2.2
        rw [Int.natAbs_natCast] at hvd
        have gd1 := gd.1
        have HT := fun (F : Nat → Prop) (w : World) hF A ha => trim_any F w hF s A c d ha gd1 (by omega) h1 h2
        rw [hvd] at HT
        have hlen : ∀ l' : List Nat, CnI l' (sgn s (v / 2 ^ j)) → l'.length ≤ 450 := fun l' g' => by
          have : l'.length ≤ d.length := g'.len_le (by rw [sgn_abs]; have := gd.lt; rwa [Int.natAbs_natCast] at this)
          omega
        obtain ⟨y, hy⟩ : ∃ y, sgn s (v / 2 ^ j) = y := ⟨_, rfl⟩
        have HZ := HZ.out
        rw [hy] at HT hlen HZ
        have H1 : ∀ (F : Nat → Prop) (w : World) (hF : ∀ k, F k → k < w.heap.size) (A A' : Option Addr) (c' : Nat) (l' : List Nat) (g' : CnI l' y) (hc' : l'.length ≤ c') (ha : Sl F w A (dl l')) (hb : Sl F w A' (dl [1])), Calls Try.prog 53 #[.agg #[.bool (decide (y < 0)), .slice A l'.length c'], .agg #[.bool true, .slice A' 1 1]] w (RetN F w (y + -1)) :=
          fun F w hF A A' c' l' g' hc' ha hb => refAdd_any F w hF A A' c' 1 l' [1] y (-1) ha hb g' ⟨by intro d hd; simp at hd; omega, by intro h; simp, rfl⟩ (by have := hlen l' g'; omega) (by simp) hc' (by simp)
        obtain ⟨r, hr⟩ : ∃ r, decide (v % 2 ^ j ≠ 0) = r := ⟨_, rfl⟩
        rw [hr] at HZ ⊢
        clear hr hy hvd
        cases s with
        | true =>
          cases r with
          | true =>
            replace HZ := Lib.hid (show y + -1 = z from HZ)
            have tk0 : True := trivial
            go_wp2_with (first
              | (go_at_call 53; have n1 := H.notF m0 hF; replace H := H.toRd; (with_reducible refine (H1 (FW F _) _ (H.fw_lt rfl hF) _ _ _ l3 g3 q3 (H.giveRd m2 f3) (H.giveRd m0 (fun _ => n1))).mono ?_); rintro e w3 ⟨A5, c5, l5, rfl, hb, s5, g5, q5, p5⟩; replace H := H.ext hb; clear hb; obtain ⟨b5, o5, H4, f5⟩ := H.addSl s5; clear H s5; have H := H4; clear H4; dsimp only)
              | (go_at_call 99; (with_reducible refine (HT (FW F _) _ (H.fw_lt rfl hF) _ (H.giveRd m0 fd)).mono ?_); rintro e w3 ⟨A3, c3, l3, rfl, hb, s3, g3, q3, p3⟩; replace H := H.ext hb; clear hb; obtain ⟨b3, o3, H4, f3⟩ := H.addSl s3; clear H s3; have H := H4; clear H4; dsimp only)
              | (guard_target =~ wpList _ _ _ (_ :: _) _ _; (first | (guard_target =~ wpList _ _ _ (Oper.mk _ (.load _ _) _ _ _ _ :: _) _ _; refine BigFrame.wpList_want rfl (fun K hK => ?_); (first | (refine o_loadC (v := ?_) (row := ?_) rfl rfl H ?_ ?_ ?_ (hK _ _ ?_); rotate_left 2; (repeat first | exact .head _ | apply List.Mem.tail); (exact rfl); (focus (intro _; simp; done))) | (refine o_loadNC (row := ?_) rfl rfl H ?_ ?_ ?_ (hK _ _ ?_); rotate_left 1; (repeat first | exact .head _ | apply List.Mem.tail); (focus (intro _; simp; done)); (focus (intro _; simp; done)))); clear hK K) | (guard_target =~ wpList _ _ _ (Oper.mk _ (.store _ _ _) _ _ _ _ :: _) _ _; refine BigFrame.wpList_want rfl (fun K hK => ?_); refine o_store (l' := ?_) (row := ?_) rfl rfl H rfl ?_ ?_ ?_ ?_ (fun w3 H2 => hK _ _ ?_); rotate_left 2; (first | exact r0 | exact r5); (focus (intro _; simp [Act.eval, Value.cells]; done)); (focus (simp [Act.eval, Value.cells]; done)); (exact rfl); clear hK K; clear H; (try clear w2); revert w3; intro w2 H; simp [Act.eval, Value.cells, setL, List.getD] at H) | ((first | (guard_target =~ wpList _ _ _ (Oper.mk _ (.alloc _) _ _ _ _ :: _) _ _; refine BigFrame.wpList_want rfl (fun K hK => ?_); refine o_alloc (z := ?_) rfl ?_ H rfl (fun w3 b2 he H2 => hK _ _ ?_); rotate_left 1; (focus (intro _; simp; with_reducible exact rfl))) | (guard_target =~ wpList _ _ _ (Oper.mk _ (.buildSlice _ _ _) _ _ _ _ :: _) _ _; refine BigFrame.wpList_want rfl (fun K hK => ?_); refine o_buildSlice (C := ?_) (E := ?_) rfl rfl H ?_ rfl (fun w3 b2 he H2 => hK _ _ ?_); rotate_left 2; (focus (intro _; simp [go_sem, Instr.buildSlice]; with_reducible exact rfl)))); clear hK K he; clear H; (try clear w2); revert w3; intro w2 H; simp [Act.eval, Value.cells, setL, List.getD] at H; (first | (clear tk0; rename Nat => d8) | (skip)))); simp only [Act.put, List.setIfInBounds_toArray, List.set_cons_succ, List.set_cons_zero]))
            have hr := H.loadVarN (P := Try.prog) (ty := 31) (b := d4) (by exact m5) (by simp) (by simp)
            rw [HZ.out] at hr g5
            exact bodyPost_ret (v := .agg #[.bool (decide (z < 0)), .slice A5 l5.length c5]) (by simp [results, Try.results48, asAddr, hr]) rfl ⟨A5, c5, l5, rfl, H.below, (H.giveRd m0 f5).fw, g5, q5, p5⟩
          | false =>
            obtain rfl : y = z := by have h : y + 0 = z := HZ; omega
            clear H1
            have tk0 : True := trivial
            go_wp2_with (first
              | (go_at_call 99; (with_reducible refine (HT (FW F _) _ (H.fw_lt rfl hF) _ (H.giveRd m0 fd)).mono ?_); rintro e w3 ⟨A3, c3, l3, rfl, hb, s3, g3, q3, p3⟩; replace H := H.ext hb; clear hb; obtain ⟨b3, o3, H4, f3⟩ := H.addSl s3; clear H s3; have H := H4; clear H4; dsimp only)
              | (guard_target =~ wpList _ _ _ (_ :: _) _ _; (first | (guard_target =~ wpList _ _ _ (Oper.mk _ (.load _ _) _ _ _ _ :: _) _ _; refine BigFrame.wpList_want rfl (fun K hK => ?_); (first | (refine o_loadC (v := ?_) (row := ?_) rfl rfl H ?_ ?_ ?_ (hK _ _ ?_); rotate_left 2; (repeat first | exact .head _ | apply List.Mem.tail); (exact rfl); (focus (intro _; simp; done))) | (refine o_loadNC (row := ?_) rfl rfl H ?_ ?_ ?_ (hK _ _ ?_); rotate_left 1; (repeat first | exact .head _ | apply List.Mem.tail); (focus (intro _; simp; done)); (focus (intro _; simp; done)))); clear hK K) | (guard_target =~ wpList _ _ _ (Oper.mk _ (.store _ _ _) _ _ _ _ :: _) _ _; refine BigFrame.wpList_want rfl (fun K hK => ?_); refine o_store (l' := ?_) (row := ?_) rfl rfl H rfl ?_ ?_ ?_ ?_ (fun w3 H2 => hK _ _ ?_); rotate_left 2; (first | exact r0 | exact r3); (focus (intro _; simp [Act.eval, Value.cells]; done)); (focus (simp [Act.eval, Value.cells]; done)); (exact rfl); clear hK K; clear H; (try clear w2); revert w3; intro w2 H; simp [Act.eval, Value.cells, setL, List.getD] at H) | ((guard_target =~ wpList _ _ _ (Oper.mk _ (.alloc _) _ _ _ _ :: _) _ _; refine BigFrame.wpList_want rfl (fun K hK => ?_); refine o_alloc (z := ?_) rfl ?_ H rfl (fun w3 b2 he H2 => hK _ _ ?_); rotate_left 1; (focus (intro _; simp; with_reducible exact rfl))); clear hK K he; clear H; (try clear w2); revert w3; intro w2 H; simp [Act.eval, Value.cells, setL, List.getD] at H; (clear tk0; rename Nat => d8))); simp only [Act.put, List.setIfInBounds_toArray, List.set_cons_succ, List.set_cons_zero]))
            have hr := H.loadVarN (P := Try.prog) (ty := 31) (b := d4) (by exact m3) (by simp) (by simp)
            exact bodyPost_ret (v := .agg #[.bool (decide (y < 0)), .slice A3 l3.length c3]) (by simp [results, Try.results48, asAddr, hr]) rfl ⟨A3, c3, l3, rfl, H.below, (H.giveRd m1 f3).fw, g3, q3, p3⟩
        | false =>
          obtain rfl : y = z := by have h : y + 0 = z := by { cases r <;> exact HZ }
                                   omega
          clear H1 HZ
          have tk0 : True := trivial
          go_wp2_with (first
            | (go_at_call 99; (with_reducible refine (HT (FW F _) _ (H.fw_lt rfl hF) _ (H.giveRd m0 fd)).mono ?_); rintro e w3 ⟨A3, c3, l3, rfl, hb, s3, g3, q3, p3⟩; replace H := H.ext hb; clear hb; obtain ⟨b3, o3, H4, f3⟩ := H.addSl s3; clear H s3; have H := H4; clear H4; dsimp only)
            | (guard_target =~ wpList _ _ _ (_ :: _) _ _; (first | (guard_target =~ wpList _ _ _ (Oper.mk _ (.load _ _) _ _ _ _ :: _) _ _; refine BigFrame.wpList_want rfl (fun K hK => ?_); (first | (refine o_loadC (v := ?_) (row := ?_) rfl rfl H ?_ ?_ ?_ (hK _ _ ?_); rotate_left 2; (repeat first | exact .head _ | apply List.Mem.tail); (exact rfl); (focus (intro _; simp; done))) | (refine o_loadNC (row := ?_) rfl rfl H ?_ ?_ ?_ (hK _ _ ?_); rotate_left 1; (repeat first | exact .head _ | apply List.Mem.tail); (focus (intro _; simp; done)); (focus (intro _; simp; done)))); clear hK K) | (guard_target =~ wpList _ _ _ (Oper.mk _ (.store _ _ _) _ _ _ _ :: _) _ _; refine BigFrame.wpList_want rfl (fun K hK => ?_); refine o_store (l' := ?_) (row := ?_) rfl rfl H rfl ?_ ?_ ?_ ?_ (fun w3 H2 => hK _ _ ?_); rotate_left 2; (first | exact r0 | exact r3); (focus (intro _; simp [Act.eval, Value.cells]; done)); (focus (simp [Act.eval, Value.cells]; done)); (exact rfl); clear hK K; clear H; (try clear w2); revert w3; intro w2 H; simp [Act.eval, Value.cells, setL, List.getD] at H) | ((guard_target =~ wpList _ _ _ (Oper.mk _ (.alloc _) _ _ _ _ :: _) _ _; refine BigFrame.wpList_want rfl (fun K hK => ?_); refine o_alloc (z := ?_) rfl ?_ H rfl (fun w3 b2 he H2 => hK _ _ ?_); rotate_left 1; (focus (intro _; simp; with_reducible exact rfl))); clear hK K he; clear H; (try clear w2); revert w3; intro w2 H; simp [Act.eval, Value.cells, setL, List.getD] at H; (clear tk0; rename Nat => d8))); simp only [Act.put, List.setIfInBounds_toArray, List.set_cons_succ, List.set_cons_zero]))
          have hr := H.loadVarN (P := Try.prog) (ty := 31) (b := d4) (by exact m3) (by simp) (by simp)
          exact bodyPost_ret (v := .agg #[.bool (decide (y < 0)), .slice A3 l3.length c3]) (by simp [results, Try.results48, asAddr, hr]) rfl ⟨A3, c3, l3, rfl, H.below, (H.giveRd m1 f3).fw, g3, q3, p3⟩
  · have hm1 : m ≤ 300 := by omega
    have hm2 : 300 ≤ m := by omega
    clear hm
    go_enter Try.func48, Try.ntmps48
    have tk0 : True := trivial
    have tk1 : True := trivial
    go_wp2_with (guard_target =~ wpList _ _ _ (_ :: _) _ _; (first | (guard_target =~ wpList _ _ _ (Oper.mk _ (.load _ _) _ _ _ _ :: _) _ _; refine BigFrame.wpList_want rfl (fun K hK => ?_); (refine o_loadC (v := ?_) (row := ?_) rfl rfl H ?_ ?_ ?_ (hK _ _ ?_); rotate_left 2; (repeat first | exact .head _ | apply List.Mem.tail); (exact rfl); (focus (intro _; simp; done))); clear hK K) | ((first | (guard_target =~ wpList _ _ _ (Oper.mk _ (.alloc _) _ _ _ _ :: _) _ _; refine BigFrame.wpList_want rfl (fun K hK => ?_); refine o_alloc (z := ?_) rfl ?_ H rfl (fun w3 b2 he H2 => hK _ _ ?_); rotate_left 1; (focus (intro _; simp; with_reducible exact rfl))) | (guard_target =~ wpList _ _ _ (Oper.mk _ (.box _ _) _ _ _ _ :: _) _ _; refine BigFrame.wpList_want rfl (fun K hK => ?_); refine o_box rfl H rfl (fun w3 b2 he H2 => hK _ _ ?_))); clear hK K he; clear H; (try clear w2); revert w3; intro w2 H; simp [Act.eval, Value.cells, setL, List.getD] at H; (first | (clear tk0; rename Nat => d2) | (clear tk1; rename Nat => d4)))); simp only [Act.put, List.setIfInBounds_toArray, List.set_cons_succ, List.set_cons_zero])
    go_loopg [5, 6, 7] m (FloorRel F w A1 b1 o1 c1 d2 d4 s a v m)
    case atStart =>
      refine ⟨0, A1, c1, b1, o1, a, Nat.zero_add _, rfl, rfl, by simp [Nat.mod_one], by simpa using gn, la, ma, ma2, f1, H.copy m2 rfl⟩
    case round =>
      clear H
      obtain ⟨j, A, c, b, o, d, hk, rfl, rfl, rfl, gd, hd, h1, h2, fd, H⟩ := hrel
      by_cases h0 : j < m
      · have hst := rest_step v j
        have hv2 : v / 2 ^ (j + 1) = v / 2 ^ j / 2 := by rw [Nat.pow_succ, Nat.div_div_eq_div_mul]
        have hvd := gd.2.2
        rw [Int.natAbs_natCast] at hvd
        have hm2 := val_mod2 d
        rw [hvd] at hm2
        have gd1 := gd.1
        have HH := fun (F : Nat → Prop) (w : World) hF A ha => half_any F w hF A c d ha gd1 (by omega) h1
        rw [hvd, ← hv2] at HH
        have hlen : ∀ l' : List Nat, CnI l' ((v / 2 ^ (j + 1) : Nat) : Int) → l'.length ≤ 450 := fun l' g' => by
          have : l'.length ≤ d.length := g'.len_of (m := v / 2 ^ j) (by rw [hv2]; exact Nat.div_le_self _ _) (by have := gd.lt; rwa [Int.natAbs_natCast] at this)
          omega
        obtain ⟨r, hr⟩ : ∃ r, decide (v % 2 ^ j ≠ 0) = r := ⟨_, rfl⟩
        rw [hr] at hst ⊢
        obtain ⟨u, hu⟩ : ∃ u, decide (v / 2 ^ j % 2 = 1) = u := ⟨_, rfl⟩
        rw [hu] at hst
        have HST := Lib.hid hst
        cases r with
        | true =>
          clear hst hr hu hm2 hvd hv2
          go_wp2_with (go_at_call 109; (with_reducible refine (HH (FW F _) _ (H.fw_lt rfl hF) _ (H.giveRd m0 fd)).mono ?_); rintro e w3 ⟨A3, c3, l3, rfl, hb, s3, g3, q3, p3⟩; replace H := H.ext hb; clear hb; obtain ⟨b3, o3, H4, f3⟩ := H.addSl s3; clear H s3; have H := H4; clear H4; dsimp only)
          go_roundg (m - (j + 1))
          case rel =>
            refine ⟨j + 1, A3, c3, b3, o3, l3, by omega, by congr 1, rfl, by rw [HST.out]; rfl, g3, hlen l3 g3, q3, p3, f3, H.sub (.cons_cons _ (.cons _ (.refl _)))⟩
          case measure => omega
        | false =>
          by_cases hd0 : 0 < d.length
          · obtain ⟨y, hy, by_, ty⟩ := dig_at hd0 gd.1
            obtain rfl := H.rdAddr m0 (by rw [dl_length]; omega)
            replace ty := ty (some ⟨b, o, none⟩) b o
            rw [Nat.add_zero] at ty
            rw [hy.out] at hm2
            have hb1 : ((y : Int) % 2 == 1) = u := by
              rw [← hu, hm2]
              rw [Bool.eq_iff_iff]; simp; omega
            clear hst hr hu hm2 hvd hv2
            go_wp2_with (first
              | (go_at_call 109; (with_reducible refine (HH (FW F _) _ (H.fw_lt rfl hF) _ (H.giveRd m0 fd)).mono ?_); rintro e w3 ⟨A3, c3, l3, rfl, hb, s3, g3, q3, p3⟩; replace H := H.ext hb; clear hb; obtain ⟨b3, o3, H4, f3⟩ := H.addSl s3; clear H s3; have H := H4; clear H4; dsimp only)
              | (guard_target =~ wpList _ _ _ (_ :: _) _ _; (guard_target =~ wpList _ _ _ (Oper.mk _ (.load _ _) _ _ _ _ :: _) _ _; refine BigFrame.wpList_want rfl (fun K hK => ?_); (refine o_load (v := ?_) (r := ?_) rfl rfl H ?_ ?_ ?_ (hK _ _ ?_); rotate_left 2; (with_reducible assumption); (repeat first | exact .head _ | apply List.Mem.tail); (focus (intro _; simp; done))); clear hK K); simp only [Act.put, List.setIfInBounds_toArray, List.set_cons_succ, List.set_cons_zero]))
            go_roundg (m - (j + 1))
            case rel =>
              refine ⟨j + 1, A3, c3, b3, o3, l3, by omega, by congr 1, rfl, by rw [HST.out, Bool.false_or], g3, hlen l3 g3, q3, p3, f3, H.sub (.cons_cons _ (.cons _ (.refl _)))⟩
            case measure => omega
          · obtain rfl : d = [] := List.length_eq_zero_iff.1 (by omega)
            have hu0 : u = false := by rw [← hu, hm2]; rfl
            have HU := Lib.hid hu0
            have HH : ∀ (F : Nat → Prop) (w : World) (hF : ∀ k, F k → k < w.heap.size) (A : Option Addr) (ha : Sl F w A (dl [])), Calls Try.prog 109 #[.slice A 0 c] w (RetC F w (v / 2 ^ (j + 1))) := HH
            clear hst hr hu hm2 hvd hv2 hu0
            go_wp2_with (go_at_call 109; (with_reducible refine (HH (FW F _) _ (H.fw_lt rfl hF) _ (H.giveRd m0 fd)).mono ?_); rintro e w3 ⟨A3, c3, l3, rfl, hb, s3, g3, q3, p3⟩; replace H := H.ext hb; clear hb; obtain ⟨b3, o3, H4, f3⟩ := H.addSl s3; clear H s3; have H := H4; clear H4; dsimp only)
            go_roundg (m - (j + 1))
            case rel =>
              refine ⟨j + 1, A3, c3, b3, o3, l3, by omega, by congr 1, rfl, by rw [HST.out, HU.out]; rfl, g3, hlen l3 g3, q3, p3, f3, H.sub (.cons_cons _ (.cons _ (.refl _)))⟩
            case measure => omega
      · obtain rfl : j = m := by omega
        have hvd := gd.2.2
        rw [Int.natAbs_natCast] at hvd
        have gd1 := gd.1
        have HT := fun (F : Nat → Prop) (w : World) hF A ha => trim_any F w hF s A c d ha gd1 (by omega) h1 h2
        rw [hvd] at HT
        have hlen : ∀ l' : List Nat, CnI l' (sgn s (v / 2 ^ j)) → l'.length ≤ 450 := fun l' g' => by
          have : l'.length ≤ d.length := g'.len_le (by rw [sgn_abs]; have := gd.lt; rwa [Int.natAbs_natCast] at this)
          omega
        obtain ⟨y, hy⟩ : ∃ y, sgn s (v / 2 ^ j) = y := ⟨_, rfl⟩
        have HZ := HZ.out
        rw [hy] at HT hlen HZ
        have H1 : ∀ (F : Nat → Prop) (w : World) (hF : ∀ k, F k → k < w.heap.size) (A A' : Option Addr) (c' : Nat) (l' : List Nat) (g' : CnI l' y) (hc' : l'.length ≤ c') (ha : Sl F w A (dl l')) (hb : Sl F w A' (dl [1])), Calls Try.prog 53 #[.agg #[.bool (decide (y < 0)), .slice A l'.length c'], .agg #[.bool true, .slice A' 1 1]] w (RetN F w (y + -1)) :=
          fun F w hF A A' c' l' g' hc' ha hb => refAdd_any F w hF A A' c' 1 l' [1] y (-1) ha hb g' ⟨by intro d hd; simp at hd; omega, by intro h; simp, rfl⟩ (by have := hlen l' g'; omega) (by simp) hc' (by simp)
        obtain ⟨r, hr⟩ : ∃ r, decide (v % 2 ^ j ≠ 0) = r := ⟨_, rfl⟩
        rw [hr] at HZ ⊢
        clear hr hy hvd
        cases s with
        | true =>
          cases r with
          | true =>
            replace HZ := Lib.hid (show y + -1 = z from HZ)
            have tk0 : True := trivial
            go_wp2_with (first
              | (go_at_call 53; have n1 := H.notF m0 hF; replace H := H.toRd; (with_reducible refine (H1 (FW F _) _ (H.fw_lt rfl hF) _ _ _ l3 g3 q3 (H.giveRd m2 f3) (H.giveRd m0 (fun _ => n1))).mono ?_); rintro e w3 ⟨A5, c5, l5, rfl, hb, s5, g5, q5, p5⟩; replace H := H.ext hb; clear hb; obtain ⟨b5, o5, H4, f5⟩ := H.addSl s5; clear H s5; have H := H4; clear H4; dsimp only)
              | (go_at_call 99; (with_reducible refine (HT (FW F _) _ (H.fw_lt rfl hF) _ (H.giveRd m0 fd)).mono ?_); rintro e w3 ⟨A3, c3, l3, rfl, hb, s3, g3, q3, p3⟩; replace H := H.ext hb; clear hb; obtain ⟨b3, o3, H4, f3⟩ := H.addSl s3; clear H s3; have H := H4; clear H4; dsimp only)
              | (guard_target =~ wpList _ _ _ (_ :: _) _ _; (first | (guard_target =~ wpList _ _ _ (Oper.mk _ (.load _ _) _ _ _ _ :: _) _ _; refine BigFrame.wpList_want rfl (fun K hK => ?_); (first | (refine o_loadC (v := ?_) (row := ?_) rfl rfl H ?_ ?_ ?_ (hK _ _ ?_); rotate_left 2; (repeat first | exact .head _ | apply List.Mem.tail); (exact rfl); (focus (intro _; simp; done))) | (refine o_loadNC (row := ?_) rfl rfl H ?_ ?_ ?_ (hK _ _ ?_); rotate_left 1; (repeat first | exact .head _ | apply List.Mem.tail); (focus (intro _; simp; done)); (focus (intro _; simp; done)))); clear hK K) | (guard_target =~ wpList _ _ _ (Oper.mk _ (.store _ _ _) _ _ _ _ :: _) _ _; refine BigFrame.wpList_want rfl (fun K hK => ?_); refine o_store (l' := ?_) (row := ?_) rfl rfl H rfl ?_ ?_ ?_ ?_ (fun w3 H2 => hK _ _ ?_); rotate_left 2; (first | exact r0 | exact r5); (focus (intro _; simp [Act.eval, Value.cells]; done)); (focus (simp [Act.eval, Value.cells]; done)); (exact rfl); clear hK K; clear H; (try clear w2); revert w3; intro w2 H; simp [Act.eval, Value.cells, setL, List.getD] at H) | ((first | (guard_target =~ wpList _ _ _ (Oper.mk _ (.alloc _) _ _ _ _ :: _) _ _; refine BigFrame.wpList_want rfl (fun K hK => ?_); refine o_alloc (z := ?_) rfl ?_ H rfl (fun w3 b2 he H2 => hK _ _ ?_); rotate_left 1; (focus (intro _; simp; with_reducible exact rfl))) | (guard_target =~ wpList _ _ _ (Oper.mk _ (.buildSlice _ _ _) _ _ _ _ :: _) _ _; refine BigFrame.wpList_want rfl (fun K hK => ?_); refine o_buildSlice (C := ?_) (E := ?_) rfl rfl H ?_ rfl (fun w3 b2 he H2 => hK _ _ ?_); rotate_left 2; (focus (intro _; simp [go_sem, Instr.buildSlice]; with_reducible exact rfl)))); clear hK K he; clear H; (try clear w2); revert w3; intro w2 H; simp [Act.eval, Value.cells, setL, List.getD] at H; (first | (clear tk0; rename Nat => d8) | (skip)))); simp only [Act.put, List.setIfInBounds_toArray, List.set_cons_succ, List.set_cons_zero]))
            have hr := H.loadVarN (P := Try.prog) (ty := 31) (b := d4) (by exact m5) (by simp) (by simp)
            rw [HZ.out] at hr g5
            exact bodyPost_ret (v := .agg #[.bool (decide (z < 0)), .slice A5 l5.length c5]) (by simp [results, Try.results48, asAddr, hr]) rfl ⟨A5, c5, l5, rfl, H.below, (H.giveRd m0 f5).fw, g5, q5, p5⟩
          | false =>
            obtain rfl : y = z := by have h : y + 0 = z := HZ; omega
            clear H1
            have tk0 : True := trivial
            go_wp2_with (first
              | (go_at_call 99; (with_reducible refine (HT (FW F _) _ (H.fw_lt rfl hF) _ (H.giveRd m0 fd)).mono ?_); rintro e w3 ⟨A3, c3, l3, rfl, hb, s3, g3, q3, p3⟩; replace H := H.ext hb; clear hb; obtain ⟨b3, o3, H4, f3⟩ := H.addSl s3; clear H s3; have H := H4; clear H4; dsimp only)
              | (guard_target =~ wpList _ _ _ (_ :: _) _ _; (first | (guard_target =~ wpList _ _ _ (Oper.mk _ (.load _ _) _ _ _ _ :: _) _ _; refine BigFrame.wpList_want rfl (fun K hK => ?_); (first | (refine o_loadC (v := ?_) (row := ?_) rfl rfl H ?_ ?_ ?_ (hK _ _ ?_); rotate_left 2; (repeat first | exact .head _ | apply List.Mem.tail); (exact rfl); (focus (intro _; simp; done))) | (refine o_loadNC (row := ?_) rfl rfl H ?_ ?_ ?_ (hK _ _ ?_); rotate_left 1; (repeat first | exact .head _ | apply List.Mem.tail); (focus (intro _; simp; done)); (focus (intro _; simp; done)))); clear hK K) | (guard_target =~ wpList _ _ _ (Oper.mk _ (.store _ _ _) _ _ _ _ :: _) _ _; refine BigFrame.wpList_want rfl (fun K hK => ?_); refine o_store (l' := ?_) (row := ?_) rfl rfl H rfl ?_ ?_ ?_ ?_ (fun w3 H2 => hK _ _ ?_); rotate_left 2; (first | exact r0 | exact r3); (focus (intro _; simp [Act.eval, Value.cells]; done)); (focus (simp [Act.eval, Value.cells]; done)); (exact rfl); clear hK K; clear H; (try clear w2); revert w3; intro w2 H; simp [Act.eval, Value.cells, setL, List.getD] at H) | ((guard_target =~ wpList _ _ _ (Oper.mk _ (.alloc _) _ _ _ _ :: _) _ _; refine BigFrame.wpList_want rfl (fun K hK => ?_); refine o_alloc (z := ?_) rfl ?_ H rfl (fun w3 b2 he H2 => hK _ _ ?_); rotate_left 1; (focus (intro _; simp; with_reducible exact rfl))); clear hK K he; clear H; (try clear w2); revert w3; intro w2 H; simp [Act.eval, Value.cells, setL, List.getD] at H; (clear tk0; rename Nat => d8))); simp only [Act.put, List.setIfInBounds_toArray, List.set_cons_succ, List.set_cons_zero]))
            have hr := H.loadVarN (P := Try.prog) (ty := 31) (b := d4) (by exact m3) (by simp) (by simp)
            exact bodyPost_ret (v := .agg #[.bool (decide (y < 0)), .slice A3 l3.length c3]) (by simp [results, Try.results48, asAddr, hr]) rfl ⟨A3, c3, l3, rfl, H.below, (H.giveRd m1 f3).fw, g3, q3, p3⟩
        | false =>
          obtain rfl : y = z := by have h : y + 0 = z := by { cases r <;> exact HZ }
                                   omega
          clear H1 HZ
          have tk0 : True := trivial
          go_wp2_with (first
            | (go_at_call 99; (with_reducible refine (HT (FW F _) _ (H.fw_lt rfl hF) _ (H.giveRd m0 fd)).mono ?_); rintro e w3 ⟨A3, c3, l3, rfl, hb, s3, g3, q3, p3⟩; replace H := H.ext hb; clear hb; obtain ⟨b3, o3, H4, f3⟩ := H.addSl s3; clear H s3; have H := H4; clear H4; dsimp only)
            | (guard_target =~ wpList _ _ _ (_ :: _) _ _; (first | (guard_target =~ wpList _ _ _ (Oper.mk _ (.load _ _) _ _ _ _ :: _) _ _; refine BigFrame.wpList_want rfl (fun K hK => ?_); (first | (refine o_loadC (v := ?_) (row := ?_) rfl rfl H ?_ ?_ ?_ (hK _ _ ?_); rotate_left 2; (repeat first | exact .head _ | apply List.Mem.tail); (exact rfl); (focus (intro _; simp; done))) | (refine o_loadNC (row := ?_) rfl rfl H ?_ ?_ ?_ (hK _ _ ?_); rotate_left 1; (repeat first | exact .head _ | apply List.Mem.tail); (focus (intro _; simp; done)); (focus (intro _; simp; done)))); clear hK K) | (guard_target =~ wpList _ _ _ (Oper.mk _ (.store _ _ _) _ _ _ _ :: _) _ _; refine BigFrame.wpList_want rfl (fun K hK => ?_); refine o_store (l' := ?_) (row := ?_) rfl rfl H rfl ?_ ?_ ?_ ?_ (fun w3 H2 => hK _ _ ?_); rotate_left 2; (first | exact r0 | exact r3); (focus (intro _; simp [Act.eval, Value.cells]; done)); (focus (simp [Act.eval, Value.cells]; done)); (exact rfl); clear hK K; clear H; (try clear w2); revert w3; intro w2 H; simp [Act.eval, Value.cells, setL, List.getD] at H) | ((guard_target =~ wpList _ _ _ (Oper.mk _ (.alloc _) _ _ _ _ :: _) _ _; refine BigFrame.wpList_want rfl (fun K hK => ?_); refine o_alloc (z := ?_) rfl ?_ H rfl (fun w3 b2 he H2 => hK _ _ ?_); rotate_left 1; (focus (intro _; simp; with_reducible exact rfl))); clear hK K he; clear H; (try clear w2); revert w3; intro w2 H; simp [Act.eval, Value.cells, setL, List.getD] at H; (clear tk0; rename Nat => d8))); simp only [Act.put, List.setIfInBounds_toArray, List.set_cons_succ, List.set_cons_zero]))
          have hr := H.loadVarN (P := Try.prog) (ty := 31) (b := d4) (by exact m3) (by simp) (by simp)
          exact bodyPost_ret (v := .agg #[.bool (decide (y < 0)), .slice A3 l3.length c3]) (by simp [results, Try.results48, asAddr, hr]) rfl ⟨A3, c3, l3, rfl, H.below, (H.giveRd m1 f3).fw, g3, q3, p3⟩
end Go.Proofs.Ytdgpdafkngoegaa
