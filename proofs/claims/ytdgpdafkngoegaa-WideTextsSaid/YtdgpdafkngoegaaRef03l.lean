/-
  The walks of the document's layer 3: numbers in decimal.
-/
import Derived.Test.YtdgpdafkngoegaaRef03g
import Derived.Test.YtdgpdafkngoegaaRef03p
import Derived.Test.YtdgpdafkngoegaaOwn6
namespace Go.Proofs.Ytdgpdafkngoegaa
set_option linter.unusedVariables false
set_option linter.unusedSimpArgs false
open Go.RowKit

def RTextRel (F : Nat → Prop) (w : World) (A1 : Option Addr) (b1 o1 c1 d1 : Nat) (s : Bool) (a : List Nat) (v : Nat) (k : Nat) (l t : Value) (wr : World) : Prop :=
  ∃ (A : Option Addr) (c b o : Nat) (d : List Nat) (tl : List UInt8), l = .slice A d.length c ∧ t = .string ⟨tl.toArray⟩ ∧ CnI d (k : Int) ∧ decL v = decL k ++ tl ∧ tl.length ≤ 10000 ∧ d.length ≤ 450 ∧ d.length ≤ c ∧ c ≤ maxLen ∧ (0 < (dl d).length → ¬ F b) ∧
    Own w.heap.size w wr [.rd A b o (dl d), .cells d1 [.bool s, .slice A1 a.length c1], .rd A1 b1 o1 (dl a)]
def RTextIn (F : Nat → Prop) (w : World) (A A1 : Option Addr) (b o b1 o1 c1 d1 b2 : Nat) (s : Bool) (a d : List Nat) (k : Nat) (rest i : Value) (wr : World) : Prop :=
  ∃ (r : Nat) (l : List Nat), k ≤ d.length ∧ i = .int .i64 ((k : Int) - 1) ∧ rest = .int .i64 (r : Int) ∧ r ≤ 9 ∧ l.length = d.length ∧ Dg l ∧ val (d.drop k) = 10 * val (l.drop k) + r ∧
    Own w.heap.size w wr [.cells b2 (dl l), .rd A b o (dl d), .cells d1 [.bool s, .slice A1 a.length c1], .rd A1 b1 o1 (dl a)]
set_option maxRecDepth 100000 in
set_option maxHeartbeats 8000000 in
theorem refText_any (F : Nat → Prop) (w : World) (hF : ∀ k, F k → k < w.heap.size) (A1 : Option Addr) (c1 : Nat) (a : List Nat) (x : Int) (ha : Sl F w A1 (dl a)) (ga : CnI a x) (la : a.length ≤ 450) (ma : a.length ≤ c1) (ma2 : c1 ≤ maxLen) :
    Calls Try.prog 39 #[.agg #[.bool (decide (x < 0)), .slice A1 a.length c1]] w fun e w' => e = .returned (.string ⟨(textL x).toArray⟩) ∧ Below w.heap.size w w' := by
  obtain ⟨b1, o1, H, f1⟩ := (Own.start w).addSl (ha.ro (by rfl))
  clear ha
  have gn := ga.nat
  have hz : textL x = (if decide (x < 0) = true then [45] else []) ++ decL x.natAbs := by unfold textL; simp
  obtain ⟨z, hz2⟩ : ∃ z, textL x = z := ⟨_, rfl⟩
  obtain ⟨v, hv⟩ : ∃ v, x.natAbs = v := ⟨_, rfl⟩
  obtain ⟨s, hs⟩ : ∃ s, decide (x < 0) = s := ⟨_, rfl⟩
  rw [hs, hv, hz2] at hz
  rw [hv] at gn
  rw [hs, hz2]
  have HZ := Lib.hid hz
  have HV10 : (decL v).length ≤ 16 * a.length + 1 := decL_len _ _ (by have := gn.lt; rw [Int.natAbs_natCast] at this; rwa [show (65536 : Nat) = 2 ^ 16 from rfl, ← Nat.pow_mul] at this)
  clear hs hz hv hz2 ga x
  go_enter Try.func39, Try.ntmps39
  have tk0 : True := trivial
  go_wp2_with (guard_target =~ wpList _ _ _ (_ :: _) _ _; (first | (guard_target =~ wpList _ _ _ (Oper.mk _ (.load _ _) _ _ _ _ :: _) _ _; refine BigFrame.wpList_want rfl (fun K hK => ?_); (refine o_loadC (v := ?_) (row := ?_) rfl rfl H ?_ ?_ ?_ (hK _ _ ?_); rotate_left 2; (repeat first | exact .head _ | apply List.Mem.tail); (exact rfl); (focus (intro _; simp; done))); clear hK K) | ((guard_target =~ wpList _ _ _ (Oper.mk _ (.box _ _) _ _ _ _ :: _) _ _; refine BigFrame.wpList_want rfl (fun K hK => ?_); refine o_box rfl H rfl (fun w3 b2 he H2 => hK _ _ ?_)); clear hK K he; clear H; (try clear w2); revert w3; intro w2 H; simp [Act.eval, Value.cells, setL, List.getD] at H; (clear tk0; rename Nat => d1))); simp only [Act.put, List.setIfInBounds_toArray, List.set_cons_succ, List.set_cons_zero])
  go_loopg [4, 3] v (RTextRel F w A1 b1 o1 c1 d1 s a v)
  case atStart => exact ⟨A1, c1, b1, o1, a, [], rfl, rfl, gn, by simp, by simp, la, ma, ma2, f1, H.copy m1 rfl⟩
  case round =>
    clear H
    obtain ⟨A, c, b, o, d, tl, rfl, rfl, gd, hdec, htl, ld, h1, h2, fd, H⟩ := hrel
    have HD := Lib.hid hdec
    clear hdec
    obtain ⟨q0, rfl⟩ : ∃ q0, q0 = gk := ⟨_, rfl⟩
    have tk0 : True := trivial
    go_wp2_with (guard_target =~ wpList _ _ _ (_ :: _) _ _; (guard_target =~ wpList _ _ _ (Oper.mk _ (.makeSlice _ _ _) _ _ _ _ :: _) _ _; refine BigFrame.wpList_want rfl (fun K hK => ?_); refine o_make Try.infoInt rfl rfl rfl (by kernel_rfl) ?_ H rfl (fun w3 b2 he H2 => hK _ _ ?_); (focus (exact (by omega))); clear hK K he; clear H; (try clear w2); revert w3; intro w2 H; (clear tk0; rename Nat => d5)); simp only [Act.put, List.setIfInBounds_toArray, List.set_cons_succ, List.set_cons_zero])
    rw [made_dl] at H
    go_loopg [5, 7] d.length (RTextIn F w A A1 b o b1 o1 c1 d1 d5 s a d)
    case atStart =>
      refine ⟨0, List.replicate d.length 0, Nat.le_refl _, rfl, rfl, by omega, by simp, Dg.zeros _, ?_, H⟩
      rw [List.drop_of_length_le (Nat.le_refl _), List.drop_of_length_le (by simp)]; rfl
    case round =>
      clear H
      obtain ⟨r, l, hk, rfl, rfl, hr, hl, gl, hv, H⟩ := hrel
      have HL := Lib.hid hl
      have HV := Lib.hid hv
      clear hl hv
      by_cases h0 : 0 < gk
      · obtain ⟨j, rfl⟩ : ∃ j, gk = j + 1 := ⟨gk - 1, by omega⟩
        have e1 : ((j + 1 : Nat) : Int) - 1 = (j : Int) := by omega
        rw [e1]
        clear e1
        have hja : j < d.length := by omega
        have hjl : j < (dl l).length := by rw [dl_length, HL.out]; exact hja
        obtain rfl := H.rdAddr m1 (by rw [dl_length]; omega)
        obtain ⟨x, hx, bx, tx⟩ := dig_at hja gd.1
        replace tx := tx (some ⟨b, o, none⟩) b o
        go_wp2_with (guard_target =~ wpList _ _ _ (_ :: _) _ _; (first | (guard_target =~ wpList _ _ _ (Oper.mk _ (.load _ _) _ _ _ _ :: _) _ _; refine BigFrame.wpList_want rfl (fun K hK => ?_); (refine o_load (v := ?_) (r := ?_) rfl rfl H ?_ ?_ ?_ (hK _ _ ?_); rotate_left 2; (with_reducible assumption); (repeat first | exact .head _ | apply List.Mem.tail); (focus (intro _; simp; done))); clear hK K) | (guard_target =~ wpList _ _ _ (Oper.mk _ (.store _ _ _) _ _ _ _ :: _) _ _; refine BigFrame.wpList_want rfl (fun K hK => ?_); refine o_store (l' := ?_) (row := ?_) rfl rfl H rfl ?_ ?_ ?_ ?_ (fun w3 H2 => hK _ _ ?_); rotate_left 2; (exact r0); (focus (intro _; simp [Act.eval, Value.cells]; done)); (focus ((try simp [Act.eval, Value.cells]); omega)); (exact rfl); clear hK K; clear H; (try clear w2); revert w3; intro w2 H; simp [Act.eval, Value.cells, setL, List.getD] at H)); simp only [Act.put, List.setIfInBounds_toArray, List.set_cons_succ, List.set_cons_zero])
        have e2 : ((r : Int) * 65536 + (x : Int)) / 10 = (((r * 65536 + x) / 10 : Nat) : Int) := by omega
        rw [e2, dl_set] at H
        go_roundg j
        case rel =>
          refine ⟨(r * 65536 + x) % 10, l.set j ((r * 65536 + x) / 10), by omega, rfl, by congr 1, by omega, by rw [List.length_set]; exact HL.out, gl.set _ _ (by omega), ?_, H⟩
          exact quot_round 10 (by omega) d l j r _ x hja (by rw [HL.out]; exact hja) hx.out rfl HV.out
        case measure => omega
      · obtain rfl : gk = 0 := by omega
        have e1 : ((0 : Nat) : Int) - 1 = -1 := rfl
        rw [e1]
        clear e1
        have n5 := H.notF m0 hF
        have H := H.toRd
        obtain ⟨u, hu⟩ : ∃ u, UInt8.ofNat (48 + r) = u := ⟨_, rfl⟩
        have u0 : (48 + (r : Int)) = (u.toNat : Int) := by rw [← hu, dig_byte (by omega)]; omega
        have U0 := Lib.hid u0
        have HU := Lib.hid hu
        have hv := HV.out
        simp only [List.drop_zero] at hv
        have hvd := gd.2.2
        rw [Int.natAbs_natCast] at hvd
        rw [hvd] at hv
        have hq : val l = q0 / 10 := by omega
        have hr2 : r = q0 % 10 := by omega
        have HT : ∀ (F : Nat → Prop) (w : World) (hF : ∀ k, F k → k < w.heap.size) (A : Option Addr) (ha : Sl F w A (dl l)), Calls Try.prog 99 #[.agg #[.bool false, .slice A d.length d.length]] w (RetNn F w (q0 / 10)) := by
          intro F w hF A ha
          have h := trimNn_any F w hF A d.length l _ hq ha gl (by rw [HL.out]; omega) (by rw [HL.out]; exact Nat.le_refl _) (by unfold maxLen; omega)
          rw [HL.out] at h
          exact h
        have hlen : ∀ l' : List Nat, CnI l' ((q0 / 10 : Nat) : Int) → l'.length ≤ 450 := fun l' g' => by
          have : l'.length ≤ d.length := g'.len_of (m := q0) (Nat.div_le_self _ _) (by have := gd.lt; rwa [Int.natAbs_natCast] at this)
          omega
        have HQ := Lib.hid hq
        have HR := Lib.hid hr2
        have htl2 : 1 + tl.length ≤ 9223372036854775807 := by omega
        have kf := field_num1
        clear u0 hu hv hvd hq hr2
        have tk0 : True := trivial
        go_wp2_with (first
          | (go_at_call 99; (with_reducible refine (HT (FW F _) _ (H.fw_lt rfl hF) _ (H.giveRd m1 (fun _ => n5))).mono ?_); rintro e w3 ⟨A3, c3, l3, rfl, hb, s3, g3, q3, p3⟩; replace H := H.ext hb; clear hb; obtain ⟨b3, o3, H4, f3⟩ := H.addSl s3; clear H s3; have H := H4; clear H4; dsimp only)
          | (guard_target =~ wpList _ _ _ (_ :: _) _ _; (first | (guard_target =~ wpList _ _ _ (Oper.mk _ (.load _ _) _ _ _ _ :: _) _ _; refine BigFrame.wpList_want rfl (fun K hK => ?_); (refine o_loadC (v := ?_) (row := ?_) rfl rfl H ?_ ?_ ?_ (hK _ _ ?_); rotate_left 2; (repeat first | exact .head _ | apply List.Mem.tail); (exact rfl); (focus (intro _; simp; done))); clear hK K) | ((guard_target =~ wpList _ _ _ (Oper.mk _ (.buildSlice _ _ _) _ _ _ _ :: _) _ _; refine BigFrame.wpList_want rfl (fun K hK => ?_); refine o_buildSlice (C := ?_) (E := ?_) rfl rfl H ?_ rfl (fun w3 b2 he H2 => hK _ _ ?_); rotate_left 2; (focus (intro _; simp [go_sem, Instr.buildSlice]; with_reducible exact rfl))); clear hK K he; clear H; (try clear w2); revert w3; intro w2 H; simp [Act.eval, Value.cells, setL, List.getD] at H; (clear tk0; rename Nat => d6)) | (guard_target =~ wpList _ _ _ (Oper.mk _ (.convert _ _ _) _ _ _ _ :: _) _ _; refine BigFrame.wpList_want rfl (fun K hK => ?_); refine o_conv (e := 5) (l := [u]) (by kernel_rfl) (by kernel_rfl) (by kernel_rfl) rfl rfl H m0 (⟨rfl, by rw [U0.out]; rfl⟩) (rfl) (hK _ _ ?_); clear hK K)); simp only [Act.put, List.setIfInBounds_toArray, List.set_cons_succ, List.set_cons_zero]))
        all_goals have hl3 := hlen l3 g3
        all_goals have hst : (⟨#[u]⟩ : ByteArray) ++ ⟨tl.toArray⟩ = ⟨(u :: tl).toArray⟩ := str_add [u] tl
        all_goals have hst2 : (⟨#[45]⟩ : ByteArray) ++ ⟨(u :: tl).toArray⟩ = ⟨(45 :: u :: tl).toArray⟩ := str_add [45] (u :: tl)
        all_goals have hd1 := HD.out
        all_goals rw [decL_eq q0, ← HR.out, HU.out] at hd1
        all_goals first
          | (go_roundg (q0 / 10)
             case rel =>
               have h0 : 0 < l3.length := by
                 have h : ((l3.length : Int) == 0) = false := by assumption
                 simp at h
                 exact List.length_pos_iff.2 h
               have h1 : q0 / 10 ≠ 0 := fun h => by
                 have : l3 = [] := g3.nil_iff.2 (by rw [h]; rfl)
                 rw [this] at h0; simp at h0
               rw [if_neg (by omega), List.append_assoc] at hd1
               have hlen : (u :: tl).length ≤ 10000 := by
                 have : (decL v).length = (decL (q0 / 10)).length + (u :: tl).length := by rw [hd1]; simp
                 omega
               exact ⟨A3, c3, b3, o3, l3, u :: tl, rfl, by rw [hst], g3, hd1, hlen, hl3, q3, p3, f3, H.sub (.cons_cons _ (.cons _ (.cons _ (.cons _ (.refl _)))))⟩
             case measure =>
               have h0 : 0 < l3.length := by
                 have h : ((l3.length : Int) == 0) = false := by assumption
                 simp at h
                 exact List.length_pos_iff.2 h
               have h1 : q0 / 10 ≠ 0 := fun h => by
                 have : l3 = [] := g3.nil_iff.2 (by rw [h]; rfl)
                 rw [this] at h0; simp at h0
               omega)
          | (have h : ((l3.length : Int) == 0) = true := by assumption
             simp at h
             have h1 : q0 / 10 = 0 := by have := g3.nil_iff.1 h; omega
             rw [if_pos (by omega)] at hd1
             have hz := HZ.out
             have h3 : s = false := by assumption
             subst h3
             go_ret
             refine ⟨?_, H.below⟩
             rw [hst, hz, hd1]
             rfl)
          | (have h : ((l3.length : Int) == 0) = true := by assumption
             simp at h
             have h1 : q0 / 10 = 0 := by have := g3.nil_iff.1 h; omega
             rw [if_pos (by omega)] at hd1
             have hz := HZ.out
             have h3 : s = true := by assumption
             subst h3
             go_ret
             refine ⟨?_, H.below⟩
             rw [hst, hst2, hz, hd1]
             rfl)
end Go.Proofs.Ytdgpdafkngoegaa
