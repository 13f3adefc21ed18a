/-
  Resources: bytes as a string; numbers in decimal. Nothing of the program stands here.
-/
import Derived.Test.YtlhmjhildlnokaaGreatMd6b25c4b
import Derived.Test.YtlhmjhildlnokaaGreatM8ef4624f
import Derived.Test.YtlhmjhildlnokaaGreatM0d4adf42
import Derived.Laws.IdiomStrings
namespace Go.Proofs.YtlhmjhildlnokaaGreat
set_option linter.unusedVariables false
set_option linter.unusedSimpArgs false
open Go.RowKit
theorem geom4r1 {P Q : Prop} (k : Q) (h : Hold Q → InR 7 0 (.q 0 (.q 1 (.q 2 (.q 4 (.q 5 (.q 6 (.e 3 (.e 7 (.q 8 (.q 9 (.q 10 (.q 11 (.q 12 (.q 13 (.q 15 (.q 16 (.q 17 (.e 14 (.e 18 (.q 19 (.q 20 (.q 21 (.q 22 .nil))))))))))))))))))))))) P := by exact aR0) : P := h ⟨k⟩
set_option maxRecDepth 100000 in
set_option maxHeartbeats 8000000 in
theorem meet_on (ax ay bx b_y cx cy dx dy : Int) (ia : inB ⟨ax, ay⟩ = true) (ib : inB ⟨bx, b_y⟩ = true) (ic : inB ⟨cx, cy⟩ = true) (id_ : inB ⟨dx, dy⟩ = true)
  (n1 : decide ((⟨ax, ay⟩ : Pt) = ⟨bx, b_y⟩) = false) (n2 : decide ((⟨cx, cy⟩ : Pt) = ⟨dx, dy⟩) = false) (hv : (onL ⟨ax, ay⟩ ⟨cx, cy⟩ ⟨dx, dy⟩ || (onL ⟨bx, b_y⟩ ⟨cx, cy⟩ ⟨dx, dy⟩ || (onL ⟨cx, cy⟩ ⟨ax, ay⟩ ⟨bx, b_y⟩ || onL ⟨dx, dy⟩ ⟨ax, ay⟩ ⟨bx, b_y⟩))) = true) (w : World) :
  Calls Tryz.prog 56 #[pV ax ay, pV bx b_y, pV cx cy, pV dx dy] w fun e w' => e = .returned (.bool (meetL ⟨ax, ay⟩ ⟨bx, b_y⟩ ⟨cx, cy⟩ ⟨dx, dy⟩)) ∧ Below w.heap.size w w' := by
 have H := Own.start w
 have hall := all4 ax ay bx b_y cx cy dx dy
 rw [show (inB ⟨ax, ay⟩ && (inB ⟨bx, b_y⟩ && (inB ⟨cx, cy⟩ && inB ⟨dx, dy⟩))) = true by rw [ia, ib, ic, id_]; rfl] at hall
 have e1 := eq_pt ax ay bx b_y
 have e2 := eq_pt cx cy dx dy
 rw [← pt_eq] at e1 e2
 rw [n1] at e1
 rw [n2] at e2
 have o1 := on_any ax ay cx cy dx dy
 have o2 := on_any bx b_y cx cy dx dy
 have o3 := on_any cx cy ax ay bx b_y
 have o4 := on_any dx dy ax ay bx b_y
 rw [on_in ia ic id_] at o1
 rw [on_in ib ic id_] at o2
 rw [on_in ic ia ib] at o3
 rw [on_in id_ ia ib] at o4
 rw [show meetL ⟨ax, ay⟩ ⟨bx, b_y⟩ ⟨cx, cy⟩ ⟨dx, dy⟩ = true by unfold meetL; rw [hv]; rfl]
 generalize onL ⟨ax, ay⟩ ⟨cx, cy⟩ ⟨dx, dy⟩ = v1 at o1 hv
 generalize onL ⟨bx, b_y⟩ ⟨cx, cy⟩ ⟨dx, dy⟩ = v2 at o2 hv
 generalize onL ⟨cx, cy⟩ ⟨ax, ay⟩ ⟨bx, b_y⟩ = v3 at o3 hv
 generalize onL ⟨dx, dy⟩ ⟨ax, ay⟩ ⟨bx, b_y⟩ = v4 at o4 hv
 clear ia ib ic id_ n1 n2
 cases v1
 ·cases v2
  ·cases v3
   ·have h4 : v4 = true := by simpa using hv
    subst h4
    clear hv
    go_enter Tryz.func56, Tryz.ntmps56
    go_wp2_with (first
     | (go_at_call 45; (with_reducible refine (hall _ _ (H.giveCells m0 (fun _ h => h.elim) 0 rfl)).mono ?_); rintro e w3 ⟨rfl, hb⟩; replace H := H.ext hb; clear hb; dsimp only; (skip))
     | (go_at_call 55; (with_reducible refine (o1 _).mono ?_); rintro e w3 ⟨rfl, hb⟩; replace H := H.ext hb; clear hb; dsimp only; (skip))
     | (go_at_call 55; (with_reducible refine (o2 _).mono ?_); rintro e w3 ⟨rfl, hb⟩; replace H := H.ext hb; clear hb; dsimp only; (skip))
     | (go_at_call 55; (with_reducible refine (o3 _).mono ?_); rintro e w3 ⟨rfl, hb⟩; replace H := H.ext hb; clear hb; dsimp only; (skip))
     | (go_at_call 55; (with_reducible refine (o4 _).mono ?_); rintro e w3 ⟨rfl, hb⟩; replace H := H.ext hb; clear hb; dsimp only; (skip))
     | ((guard_target = wpList _ _ _ (_ :: _) _ _); (first | (refine aa335462 ?_) | (refine a32a6bca ?_; intro b2; clear H; (try clear w2); intro w2 H))))
    go_ret
    exact ⟨rfl, H.below⟩
   ·clear hv
    go_enter Tryz.func56, Tryz.ntmps56
    go_wp2_with (first
     | go_big_skip
     | (go_at_call 45; (with_reducible refine (hall _ _ (H.giveCells m0 (fun _ h => h.elim) 0 rfl)).mono ?_); rintro e w3 ⟨rfl, hb⟩; replace H := H.ext hb; clear hb; dsimp only; (skip))
     | (go_at_call 55; (with_reducible refine (o1 _).mono ?_); rintro e w3 ⟨rfl, hb⟩; replace H := H.ext hb; clear hb; dsimp only; (skip))
     | (go_at_call 55; (with_reducible refine (o2 _).mono ?_); rintro e w3 ⟨rfl, hb⟩; replace H := H.ext hb; clear hb; dsimp only; (skip))
     | (go_at_call 55; (with_reducible refine (o3 _).mono ?_); rintro e w3 ⟨rfl, hb⟩; replace H := H.ext hb; clear hb; dsimp only; (skip))
     | ((guard_target = wpList _ _ _ (_ :: _) _ _); (first | (refine aa335462 ?_) | (refine a32a6bca ?_; intro b2; clear H; (try clear w2); intro w2 H))))
    go_ret
    exact ⟨rfl, H.below⟩
  ·clear hv
   go_enter Tryz.func56, Tryz.ntmps56
   go_wp2_with (first
    | go_big_skip
    | (go_at_call 45; (with_reducible refine (hall _ _ (H.giveCells m0 (fun _ h => h.elim) 0 rfl)).mono ?_); rintro e w3 ⟨rfl, hb⟩; replace H := H.ext hb; clear hb; dsimp only; (skip))
    | (go_at_call 55; (with_reducible refine (o1 _).mono ?_); rintro e w3 ⟨rfl, hb⟩; replace H := H.ext hb; clear hb; dsimp only; (skip))
    | (go_at_call 55; (with_reducible refine (o2 _).mono ?_); rintro e w3 ⟨rfl, hb⟩; replace H := H.ext hb; clear hb; dsimp only; (skip))
    | ((guard_target = wpList _ _ _ (_ :: _) _ _); (first | (refine aa335462 ?_) | (refine a32a6bca ?_; intro b2; clear H; (try clear w2); intro w2 H))))
   go_ret
   exact ⟨rfl, H.below⟩
 ·clear hv
  go_enter Tryz.func56, Tryz.ntmps56
  go_wp2_with (first
   | go_big_skip
   | (go_at_call 45; (with_reducible refine (hall _ _ (H.giveCells m0 (fun _ h => h.elim) 0 rfl)).mono ?_); rintro e w3 ⟨rfl, hb⟩; replace H := H.ext hb; clear hb; dsimp only; (skip))
   | (go_at_call 55; (with_reducible refine (o1 _).mono ?_); rintro e w3 ⟨rfl, hb⟩; replace H := H.ext hb; clear hb; dsimp only; (skip))
   | ((guard_target = wpList _ _ _ (_ :: _) _ _); (first | (refine aa335462 ?_) | (refine a32a6bca ?_; intro b2; clear H; (try clear w2); intro w2 H))))
  go_ret
  exact ⟨rfl, H.below⟩
set_option maxRecDepth 100000 in
set_option maxHeartbeats 8000000 in
theorem meet_off (ax ay bx b_y cx cy dx dy : Int) (ia : inB ⟨ax, ay⟩ = true) (ib : inB ⟨bx, b_y⟩ = true) (ic : inB ⟨cx, cy⟩ = true) (id_ : inB ⟨dx, dy⟩ = true)
  (n1 : decide ((⟨ax, ay⟩ : Pt) = ⟨bx, b_y⟩) = false) (n2 : decide ((⟨cx, cy⟩ : Pt) = ⟨dx, dy⟩) = false) (hv : (onL ⟨ax, ay⟩ ⟨cx, cy⟩ ⟨dx, dy⟩ || (onL ⟨bx, b_y⟩ ⟨cx, cy⟩ ⟨dx, dy⟩ || (onL ⟨cx, cy⟩ ⟨ax, ay⟩ ⟨bx, b_y⟩ || onL ⟨dx, dy⟩ ⟨ax, ay⟩ ⟨bx, b_y⟩))) = false) (w : World) :
  Calls Tryz.prog 56 #[pV ax ay, pV bx b_y, pV cx cy, pV dx dy] w fun e w' => e = .returned (.bool (meetL ⟨ax, ay⟩ ⟨bx, b_y⟩ ⟨cx, cy⟩ ⟨dx, dy⟩)) ∧ Below w.heap.size w w' := by
 have H := Own.start w
 have hall := all4 ax ay bx b_y cx cy dx dy
 rw [show (inB ⟨ax, ay⟩ && (inB ⟨bx, b_y⟩ && (inB ⟨cx, cy⟩ && inB ⟨dx, dy⟩))) = true by rw [ia, ib, ic, id_]; rfl] at hall
 have e1 := eq_pt ax ay bx b_y
 have e2 := eq_pt cx cy dx dy
 rw [← pt_eq] at e1 e2
 rw [n1] at e1
 rw [n2] at e2
 have o1 := on_any ax ay cx cy dx dy
 have o2 := on_any bx b_y cx cy dx dy
 have o3 := on_any cx cy ax ay bx b_y
 have o4 := on_any dx dy ax ay bx b_y
 rw [on_in ia ic id_] at o1
 rw [on_in ib ic id_] at o2
 rw [on_in ic ia ib] at o3
 rw [on_in id_ ia ib] at o4
 have e3 := eq_pt ax ay cx cy
 have e4 := eq_pt bx b_y dx dy
 have e5 := eq_pt ax ay dx dy
 have e6 := eq_pt bx b_y cx cy
 rw [← pt_eq] at e3 e4 e5 e6
 have t1 := turn_any ax ay bx b_y cx cy (in_of ia) (in_of ib) (in_of ic)
 have t2 := turn_any ax ay bx b_y dx dy (in_of ia) (in_of ib) (in_of id_)
 have t3 := turn_any cx cy dx dy ax ay (in_of ic) (in_of id_) (in_of ia)
 have t4 := turn_any cx cy dx dy bx b_y (in_of ic) (in_of id_) (in_of ib)
 have m1 := mul_01 (turn_01 ⟨ax, ay⟩ ⟨bx, b_y⟩ ⟨cx, cy⟩) (turn_01 ⟨ax, ay⟩ ⟨bx, b_y⟩ ⟨dx, dy⟩)
 have m2 := mul_01 (turn_01 ⟨cx, cy⟩ ⟨dx, dy⟩ ⟨ax, ay⟩) (turn_01 ⟨cx, cy⟩ ⟨dx, dy⟩ ⟨bx, b_y⟩)
 rw [show meetL ⟨ax, ay⟩ ⟨bx, b_y⟩ ⟨cx, cy⟩ ⟨dx, dy⟩ = (((decide ((⟨ax, ay⟩ : Pt) = ⟨cx, cy⟩) && decide ((⟨bx, b_y⟩ : Pt) = ⟨dx, dy⟩)) || (decide ((⟨ax, ay⟩ : Pt) = ⟨dx, dy⟩) && decide ((⟨bx, b_y⟩ : Pt) = ⟨cx, cy⟩))) ||
  (decide (turnZ ⟨ax, ay⟩ ⟨bx, b_y⟩ ⟨cx, cy⟩ * turnZ ⟨ax, ay⟩ ⟨bx, b_y⟩ ⟨dx, dy⟩ < 0) && decide (turnZ ⟨cx, cy⟩ ⟨dx, dy⟩ ⟨ax, ay⟩ * turnZ ⟨cx, cy⟩ ⟨dx, dy⟩ ⟨bx, b_y⟩ < 0))) by unfold meetL; rw [hv]; rfl]
 simp only [Bool.or_eq_false_iff] at hv
 obtain ⟨v1, v2, v3, v4⟩ := hv
 rw [v1] at o1
 rw [v2] at o2
 rw [v3] at o3
 rw [v4] at o4
 clear v1 v2 v3 v4
 clear ia ib ic id_ n1 n2
 generalize decide ((⟨ax, ay⟩ : Pt) = ⟨cx, cy⟩) = u1 at e3 ⊢
 generalize decide ((⟨bx, b_y⟩ : Pt) = ⟨dx, dy⟩) = u2 at e4 ⊢
 generalize decide ((⟨ax, ay⟩ : Pt) = ⟨dx, dy⟩) = u3 at e5 ⊢
 generalize decide ((⟨bx, b_y⟩ : Pt) = ⟨cx, cy⟩) = u4 at e6 ⊢
 generalize turnZ ⟨ax, ay⟩ ⟨bx, b_y⟩ ⟨cx, cy⟩ = z1 at t1 m1 ⊢
 generalize turnZ ⟨ax, ay⟩ ⟨bx, b_y⟩ ⟨dx, dy⟩ = z2 at t2 m1 ⊢
 generalize turnZ ⟨cx, cy⟩ ⟨dx, dy⟩ ⟨ax, ay⟩ = z3 at t3 m2 ⊢
 generalize turnZ ⟨cx, cy⟩ ⟨dx, dy⟩ ⟨bx, b_y⟩ = z4 at t4 m2 ⊢
 obtain ⟨m1, m1'⟩ := m1
 obtain ⟨m2, m2'⟩ := m2
 obtain ⟨v, hv⟩ : ∃ v, (((u1 && u2) || (u3 && u4)) || (decide (z1 * z2 < 0) && decide (z3 * z4 < 0))) = v := ⟨_, rfl⟩
 rw [hv]
 have HV := Lib.hid hv
 clear hv
 by_cases h1 : z1 * z2 < 0
 ·have d1 : decide (z1 * z2 < 0) = true := by simpa using h1
  rw [d1, Bool.true_and] at HV
  clear h1
  go_enter Tryz.func56, Tryz.ntmps56
  go_wp2_with (first
   | go_big_skip
   | (guard_target = Code.wp _ (Code.region 7 _ true) _ _ _; refine geom4r1 ?_; clear H; (try clear w2); intro w2 H)
   | (go_at_call 45; (with_reducible refine (hall _ _ (H.giveCells m0 (fun _ h => h.elim) 0 rfl)).mono ?_); rintro e w3 ⟨rfl, hb⟩; replace H := H.ext hb; clear hb; dsimp only; (skip))
   | (go_at_call 55; (with_reducible refine (o1 _).mono ?_); rintro e w3 ⟨rfl, hb⟩; replace H := H.ext hb; clear hb; dsimp only; (skip))
   | (go_at_call 55; (with_reducible refine (o2 _).mono ?_); rintro e w3 ⟨rfl, hb⟩; replace H := H.ext hb; clear hb; dsimp only; (skip))
   | (go_at_call 55; (with_reducible refine (o3 _).mono ?_); rintro e w3 ⟨rfl, hb⟩; replace H := H.ext hb; clear hb; dsimp only; (skip))
   | (go_at_call 55; (with_reducible refine (o4 _).mono ?_); rintro e w3 ⟨rfl, hb⟩; replace H := H.ext hb; clear hb; dsimp only; (skip))
   | (go_at_call 46; (with_reducible refine (t1 _).mono ?_); rintro e w3 ⟨rfl, hb⟩; replace H := H.ext hb; clear hb; dsimp only; (refine a8c34bfe ?_; clear hK K))
   | (go_at_call 46; (with_reducible refine (t2 _).mono ?_); rintro e w3 ⟨rfl, hb⟩; replace H := H.ext hb; clear hb; dsimp only; (refine a8c34bfe ?_; clear hK K))
   | (go_at_call 46; (with_reducible refine (t3 _).mono ?_); rintro e w3 ⟨rfl, hb⟩; replace H := H.ext hb; clear hb; dsimp only; (refine a8c34bfe ?_; clear hK K))
   | (go_at_call 46; (with_reducible refine (t4 _).mono ?_); rintro e w3 ⟨rfl, hb⟩; replace H := H.ext hb; clear hb; dsimp only; (refine a8c34bfe ?_; clear hK K))
   | ((first | guard_target = wpList _ _ _ (_ :: _) _ _ | guard_target = wpTree _ _ _ _ _ _ _); (first | (refine aa335462 ?_) | (refine a32a6bca ?_; intro b2; clear H; (try clear w2); intro w2 H) | (guard_target = wpTree _ _ _ Tr.nil _ _ _; refine tree_nil ?_) | (refine ace93fc0 ?_; intro K hK))))
  all_goals
   go_ret
   exact ⟨ret_b (by rw [← HV.out]; simp [*]), H.below⟩
 ·have d1 : decide (z1 * z2 < 0) = false := by simpa using h1
  rw [d1, Bool.false_and] at HV
  clear h1
  go_enter Tryz.func56, Tryz.ntmps56
  go_wp2_with (first
   | go_big_skip
   | (guard_target = Code.wp _ (Code.region 7 _ true) _ _ _; refine geom4r1 ?_; clear H; (try clear w2); intro w2 H)
   | (go_at_call 45; (with_reducible refine (hall _ _ (H.giveCells m0 (fun _ h => h.elim) 0 rfl)).mono ?_); rintro e w3 ⟨rfl, hb⟩; replace H := H.ext hb; clear hb; dsimp only; (skip))
   | (go_at_call 55; (with_reducible refine (o1 _).mono ?_); rintro e w3 ⟨rfl, hb⟩; replace H := H.ext hb; clear hb; dsimp only; (skip))
   | (go_at_call 55; (with_reducible refine (o2 _).mono ?_); rintro e w3 ⟨rfl, hb⟩; replace H := H.ext hb; clear hb; dsimp only; (skip))
   | (go_at_call 55; (with_reducible refine (o3 _).mono ?_); rintro e w3 ⟨rfl, hb⟩; replace H := H.ext hb; clear hb; dsimp only; (skip))
   | (go_at_call 55; (with_reducible refine (o4 _).mono ?_); rintro e w3 ⟨rfl, hb⟩; replace H := H.ext hb; clear hb; dsimp only; (skip))
   | (go_at_call 46; (with_reducible refine (t1 _).mono ?_); rintro e w3 ⟨rfl, hb⟩; replace H := H.ext hb; clear hb; dsimp only; (refine a8c34bfe ?_; clear hK K))
   | (go_at_call 46; (with_reducible refine (t2 _).mono ?_); rintro e w3 ⟨rfl, hb⟩; replace H := H.ext hb; clear hb; dsimp only; (refine a8c34bfe ?_; clear hK K))
   | ((first | guard_target = wpList _ _ _ (_ :: _) _ _ | guard_target = wpTree _ _ _ _ _ _ _); (first | (refine aa335462 ?_) | (refine a32a6bca ?_; intro b2; clear H; (try clear w2); intro w2 H) | (guard_target = wpTree _ _ _ Tr.nil _ _ _; refine tree_nil ?_) | (refine ace93fc0 ?_; intro K hK))))
  all_goals
   go_ret
   exact ⟨ret_b (by rw [← HV.out]; simp [*]), H.below⟩
theorem meet_any (ax ay bx b_y cx cy dx dy : Int) (w : World) :
  Calls Tryz.prog 56 #[pV ax ay, pV bx b_y, pV cx cy, pV dx dy] w fun e w' => e = .returned (.bool (meetB ⟨ax, ay⟩ ⟨bx, b_y⟩ ⟨cx, cy⟩ ⟨dx, dy⟩)) ∧ Below w.heap.size w w' := by
 unfold meetB
 by_cases h : ((inB ⟨ax, ay⟩ && (inB ⟨bx, b_y⟩ && (inB ⟨cx, cy⟩ && inB ⟨dx, dy⟩))) && (!decide ((⟨ax, ay⟩ : Pt) = ⟨bx, b_y⟩) && !decide ((⟨cx, cy⟩ : Pt) = ⟨dx, dy⟩))) = true
 ·rw [h, Bool.true_and]
  simp only [Bool.and_eq_true, Bool.not_eq_true'] at h
  obtain ⟨⟨ia, ib, ic, id_⟩, n1, n2⟩ := h
  by_cases hv : (onL ⟨ax, ay⟩ ⟨cx, cy⟩ ⟨dx, dy⟩ || (onL ⟨bx, b_y⟩ ⟨cx, cy⟩ ⟨dx, dy⟩ || (onL ⟨cx, cy⟩ ⟨ax, ay⟩ ⟨bx, b_y⟩ || onL ⟨dx, dy⟩ ⟨ax, ay⟩ ⟨bx, b_y⟩))) = true
  ·exact meet_on ax ay bx b_y cx cy dx dy ia ib ic id_ n1 n2 hv w
  ·exact meet_off ax ay bx b_y cx cy dx dy ia ib ic id_ n1 n2 (by simpa using hv) w
 ·rw [Bool.not_eq_true] at h
  rw [h, Bool.false_and]
  exact meet_out ax ay bx b_y cx cy dx dy h w
theorem plan3x1 {P Q : Prop} (k : Q) (h : Hold Q → P := by (intro kk; guard_target = wpList _ _ _ (Oper.mk _ (.lookup _ _ _ _) _ _ _ _ :: _) _ _; (with_reducible refine BigFrame.wpList_want ?_ (fun K hK => ?_)); exact rfl; (refine o_atGet (m := ?_) rfl rfl rfl H ?_ (hK _ _ ?_); rotate_left 1; (repeat first | exact .head _ | apply List.Mem.tail)); clear hK K; simp only [Act.put, List.setIfInBounds_toArray, List.set_cons_succ, List.set_cons_zero]; exact kk.out)) : P := h ⟨k⟩
theorem plan3g2 {P Q : Prop} (k : Q) (h : Hold Q → P := by (intro kk; (guard_target = wpList _ _ _ (Oper.mk _ (.load _ _) _ _ _ _ :: _) _ _; exact a15dc6b3 kk.out))) : P := h ⟨k⟩
theorem plan3x3 {P Q : Prop} (k : Q) (h : Hold Q → P := by (intro kk; guard_target = wpList _ _ _ (Oper.mk _ (.mapUpdate _ _ _ _) _ _ _ _ :: _) _ _; (with_reducible refine BigFrame.wpList_want ?_ (fun K hK => ?_)); exact rfl; refine o_atSet (l0 := ?_) (m := ?_) rfl rfl rfl rfl H ?_ (fun w3 H2 => hK _ _ ?_); rotate_left 2; (focus (intro _; (exact r1))); clear hK K; simp only [Act.put, List.setIfInBounds_toArray, List.set_cons_succ, List.set_cons_zero]; revert H2; revert w3; exact kk.out)) : P := h ⟨k⟩
theorem plan3g4 {P Q : Prop} (k : Q) (h : Hold Q → P := by (intro kk; (first | (guard_target = wpList _ _ _ (Oper.mk _ (.store _ _ _) _ _ _ _ :: _) _ _; exact a181aa22 kk.out) | (guard_target = wpList _ _ _ (Oper.mk _ (.mapUpdate _ _ _ _) _ _ _ _ :: _) _ _; exact plan3x3 kk.out)))) : P := h ⟨k⟩
theorem plan3x5 {P Q : Prop} (k : Q) (h : Hold Q → P := by (intro kk; guard_target = wpList _ _ _ (Oper.mk _ (.makeMap _ _) _ _ _ _ :: _) _ _; (with_reducible refine BigFrame.wpList_want ?_ (fun K hK => ?_)); exact rfl; refine o_atMake rfl H (fun w3 b2 he H2 => hK _ _ ?_); clear hK K he; simp only [Act.put, List.setIfInBounds_toArray, List.set_cons_succ, List.set_cons_zero]; revert H2; revert w3; revert b2; exact kk.out)) : P := h ⟨k⟩
theorem plan3g6 {P Q : Prop} (k : Q) (h : Hold Q → P := by (intro kk; (first | (exact a9475ade kk.out) | (guard_target = wpList _ _ _ (Oper.mk _ (.makeMap _ _) _ _ _ _ :: _) _ _; exact plan3x5 kk.out)))) : P := h ⟨k⟩
theorem plan3g7 {P Q : Prop} (k : Q) (h : Hold Q → P := by (intro kk; (first | (guard_target = wpList _ _ _ (Oper.mk _ (.load _ _) _ _ _ _ :: _) _ _; exact a57b8f64 kk.out) | (guard_target = wpList _ _ _ (Oper.mk _ (.load _ _) _ _ _ _ :: _) _ _; exact a15dc6b3 kk.out) | (guard_target = wpList _ _ _ (Oper.mk _ (.lookup _ _ _ _) _ _ _ _ :: _) _ _; exact plan3x1 kk.out)))) : P := h ⟨k⟩
abbrev mAt (b : Nat) (m : Int → Option Pt) : Res := mapR (Value.int .i64) kP b m
abbrev mHas (b : Nat) (m : Pt → Option Bool) : Res := mapR kP Value.bool b m
abbrev zP : Pt := ⟨0, 0⟩
section
variable {o : Oper} {a : Act} {w w0 : World} {B : Nat} {l : List Res} {Q : Exit → Act → World → Prop} {x y z : Operand} {b : Nat} {C : Act → World → Prop}
theorem und_at : Tryz.prog.underlying 89 = some (.map 3 28) := by kernel_rfl
theorem und_met : Tryz.prog.underlying 63 = some (.map 28 4) := by kernel_rfl
theorem und_pair : Tryz.prog.underlying 90 = some (.map 92 4) := by kernel_rfl
theorem zero_pt (w : World) : (zeroValue 28).run Tryz.prog w = .ok (kP zP) w := by simp
theorem zero_bool (w : World) : (zeroValue 4).run Tryz.prog w = .ok (.bool false) w := by simp
theorem o_atMake (ho : o.op = .makeMap 89 none) (H : Own B w0 w l) (hk : ∀ w' b, Ext w w' → Own B w0 w' (mAt b (fun _ => none) :: l) → C (a.put o.dst (.map (some b))) w') : o.wp Tryz.prog a w C Q := o_makeMap _ _ ho H hk
theorem o_metMake (ho : o.op = .makeMap 63 none) (H : Own B w0 w l) (hk : ∀ w' b, Ext w w' → Own B w0 w' (mHas b (fun _ => none) :: l) → C (a.put o.dst (.map (some b))) w') : o.wp Tryz.prog a w C Q := o_makeMap _ _ ho H hk
theorem o_pairMake (ho : o.op = .makeMap 90 none) (H : Own B w0 w l) (hk : ∀ w' b, Ext w w' → Own B w0 w' (mHas b (fun _ => none) :: l) → C (a.put o.dst (.map (some b))) w') : o.wp Tryz.prog a w C Q := o_makeMap _ _ ho H hk
theorem o_atGet {m : Int → Option Pt} {n : Int} (ho : o.op = .lookup 89 x y false) (hx : a.eval x = .map (some b)) (hy : a.eval y = .int .i64 n) (H : Own B w0 w l) (hm : mAt b m ∈ l)
  (hk : C (a.put o.dst (pV ((m n).getD zP).x ((m n).getD zP).y)) w) : o.wp Tryz.prog a w C Q := o_lookup key_int (zv := zP) ho hx hy H hm und_at zero_pt hk
theorem o_atOk {m : Int → Option Pt} {n : Int} (ho : o.op = .lookup 89 x y true) (hx : a.eval x = .map (some b)) (hy : a.eval y = .int .i64 n) (H : Own B w0 w l) (hm : mAt b m ∈ l)
  (hk : C (a.put o.dst (.tuple #[pV ((m n).getD zP).x ((m n).getD zP).y, .bool (m n).isSome])) w) : o.wp Tryz.prog a w C Q := o_lookupOk key_int (zv := zP) ho hx hy H hm und_at zero_pt hk
theorem o_atSet {l0 : (Int → Option Pt) → List Res} {m : Int → Option Pt} {n p q : Int} (ho : o.op = .mapUpdate 89 x y z) (hx : a.eval x = .map (some b)) (hy : a.eval y = .int .i64 n) (hz : a.eval z = pV p q) (H : Own B w0 w l)
  (hrep : ∀ m', Rep (mAt b m) (mAt b m') l (l0 m')) (hk : ∀ w', Own B w0 w' (l0 (upd m n ⟨p, q⟩)) → C (a.put o.dst undef) w') : o.wp Tryz.prog a w C Q := o_mapUpdate key_int (v := (⟨p, q⟩ : Pt)) ho hx hy hz H hrep und_at hk
theorem o_metGet {m : Pt → Option Bool} {n p : Int} (ho : o.op = .lookup 63 x y false) (hx : a.eval x = .map (some b)) (hy : a.eval y = pV n p) (H : Own B w0 w l) (hm : mHas b m ∈ l)
  (hk : C (a.put o.dst (.bool ((m ⟨n, p⟩).getD false))) w) : o.wp Tryz.prog a w C Q := o_lookup key_pt (k := (⟨n, p⟩ : Pt)) (zv := false) ho hx hy H hm und_met zero_bool hk
theorem o_metSet {l0 : (Pt → Option Bool) → List Res} {m : Pt → Option Bool} {n p : Int} {v : Bool} (ho : o.op = .mapUpdate 63 x y z) (hx : a.eval x = .map (some b)) (hy : a.eval y = pV n p) (hz : a.eval z = .bool v) (H : Own B w0 w l)
  (hrep : ∀ m', Rep (mHas b m) (mHas b m') l (l0 m')) (hk : ∀ w', Own B w0 w' (l0 (upd m ⟨n, p⟩ v)) → C (a.put o.dst undef) w') : o.wp Tryz.prog a w C Q := o_mapUpdate key_pt (k := (⟨n, p⟩ : Pt)) ho hx hy hz H hrep und_met hk
theorem o_pairGet {m : Pt → Option Bool} {n p : Int} (ho : o.op = .lookup 90 x y false) (hx : a.eval x = .map (some b)) (hy : a.eval y = pV n p) (H : Own B w0 w l) (hm : mHas b m ∈ l)
  (hk : C (a.put o.dst (.bool ((m ⟨n, p⟩).getD false))) w) : o.wp Tryz.prog a w C Q := o_lookup key_pair (k := (⟨n, p⟩ : Pt)) (zv := false) ho hx hy H hm und_pair zero_bool hk
theorem o_pairSet {l0 : (Pt → Option Bool) → List Res} {m : Pt → Option Bool} {n p : Int} {v : Bool} (ho : o.op = .mapUpdate 90 x y z) (hx : a.eval x = .map (some b)) (hy : a.eval y = pV n p) (hz : a.eval z = .bool v) (H : Own B w0 w l)
  (hrep : ∀ m', Rep (mHas b m) (mHas b m') l (l0 m')) (hk : ∀ w', Own B w0 w' (l0 (upd m ⟨n, p⟩ v)) → C (a.put o.dst undef) w') : o.wp Tryz.prog a w C Q := o_mapUpdate key_pair (k := (⟨n, p⟩ : Pt)) ho hx hy hz H hrep und_pair hk
end
def atM (l : List Vt) : Int → Option Pt := l.foldl (fun m v => upd m v.id v.p) (fun _ => none)
theorem atM_step {vs : List Vt} {k : Nat} {i x y : Int} (h : vs[k]? = some ⟨i, ⟨x, y⟩⟩) : atM (vs.take (k + 1)) = upd (atM (vs.take k)) i ⟨x, y⟩ := by
 unfold atM
 rw [List.take_add_one, h, List.foldl_append]; rfl
def atP (vs : List Vt) (n : Int) : Pt := (atM vs n).getD zP
def crossB (vs : List Vt) (es : List Eg) (a b : Pt) : Bool := es.any fun e => meetB a b (atP vs e.a) (atP vs e.b)
set_option maxRecDepth 100000 in
set_option maxHeartbeats 4000000 in
theorem crossed_any (vs : List Vt) (es : List Eg) (A A2 : Option Addr) (n m : Nat) (c c2 : Nat) (F : Nat → Prop) (ax ay bx b_y : Int) (w : World) (hn : n = vs.length) (hm : m = es.length) (hs : Sl F w A (vR vs)) (hs2 : Sl F w A2 (eR es)) (hl : n ≤ 1000000) (hl2 : m ≤ 1000000) :
  Calls Tryz.prog 39 #[.agg #[.slice A n c, .slice A2 m c2], pV ax ay, pV bx b_y] w fun e w' => e = .returned (.bool (crossB vs es ⟨ax, ay⟩ ⟨bx, b_y⟩)) ∧ Below w.heap.size w w' := by
 obtain ⟨v, hv⟩ : ∃ v, crossB vs es ⟨ax, ay⟩ ⟨bx, b_y⟩ = v := ⟨_, rfl⟩
 have HV := Lib.hid hv
 rw [hv]; clear hv
 obtain ⟨b0, o0, H1, f0⟩ := (Own.start w).addSl (hs.ro (by rfl))
 obtain ⟨b9, o9, H, f9⟩ := H1.addSl (hs2.ro (by rfl))
 clear hs hs2 H1
 subst hn hm
 go_enter Tryz.func39, Tryz.ntmps39
 have tk0 : True := trivial
 have tk1 : True := trivial
 have tk2 : True := trivial
 have tk3 : True := trivial
 go_wp2_with (guard_target = wpList _ _ _ (_ :: _) _ _; (first | (refine plan3g2 ?_) | (refine plan3g6 ?_; intro b2; clear H; (try clear w2); intro w2 H; (first | (clear tk0; rename Nat => b1) | (clear tk1; rename Nat => b2) | (clear tk2; rename Nat => b3) | (clear tk3; rename Nat => b4)))))
 go_loopg [16] vs.length (fun k i wr => k ≤ vs.length ∧ i = .int .i64 ((vs.length - k : Nat) : Int) ∧ Own w.heap.size w wr [mAt b4 (atM (vs.take (vs.length - k))), .cells b3 [.int .i64 bx, .int .i64 b_y], .cells b2 [.int .i64 ax, .int .i64 ay], .cells b1 [.slice A vs.length c, .slice A2 es.length c2], .rd A2 b9 o9 (eR es), .rd A b0 o0 (vR vs)])
 case atStart => exact ⟨Nat.le_refl _, by simp, by rw [Nat.sub_self]; exact H⟩
 case round =>
  clear H
  obtain ⟨hk, rfl, H⟩ := hrel
  by_cases hlt : 0 < gk
  ·obtain ⟨j, hj⟩ : ∃ j, vs.length - gk = j := ⟨_, rfl⟩
   have hjl : j < vs.length := by omega
   rw [hj] at H ⊢
   obtain ⟨i, x, y, he⟩ := vt_at vs hjl
   obtain rfl := H.rdAddr m5 (vR_pos he)
   have hp := at_v (A := some ⟨b0, o0, none⟩) (b := b0) (off := o0) he
   have hst := atM_step he
   generalize atM (vs.take j) = mm at H hst
   have HE := Lib.hid hst
   have HJ := Lib.hid hj
   clear he hst hj
   have tk0 : True := trivial
   go_wp2_with (guard_target = wpList _ _ _ (_ :: _) _ _; (first | (refine plan3g7 ?_) | (refine plan3g4 ?_; clear H; (try clear w2); intro w2 H) | (refine plan3g6 ?_; intro b2; clear H; (try clear w2); intro w2 H; (clear tk0; rename Nat => b5))))
   go_roundg (gk - 1)
   case rel => exact ⟨by omega, by have := HJ.out; congr 1; omega, by rw [show vs.length - (gk - 1) = j + 1 by have := HJ.out; omega, HE.out]; exact H.tail⟩
   case measure => omega
  ·obtain rfl : gk = 0 := by omega
   rw [Nat.sub_zero, List.take_length] at H
   have hcr : crossB vs es ⟨ax, ay⟩ ⟨bx, b_y⟩ = (es.any fun e => meetB ⟨ax, ay⟩ ⟨bx, b_y⟩ ((atM vs e.a).getD zP) ((atM vs e.b).getD zP)) := rfl
   rw [hcr] at HV
   generalize atM vs = mm at H HV
   clear hcr
   generalize hf : (fun e : Eg => meetB ⟨ax, ay⟩ ⟨bx, b_y⟩ ((mm e.a).getD zP) ((mm e.b).getD zP)) = f at HV
   have tk0 : True := trivial
   go_wp2_with (guard_target = wpList _ _ _ (_ :: _) _ _; (refine a15dc6b3 ?_))
   go_loopg [29] es.length (fun k i wr => k ≤ es.length ∧ i = .int .i64 ((es.length - k : Nat) : Int) ∧ (es.take (es.length - k)).any f = false ∧ Own w.heap.size w wr [mAt b4 mm, .cells b3 [.int .i64 bx, .int .i64 b_y], .cells b2 [.int .i64 ax, .int .i64 ay], .cells b1 [.slice A vs.length c, .slice A2 es.length c2], .rd A2 b9 o9 (eR es), .rd A b0 o0 (vR vs)])
   case atStart => exact ⟨Nat.le_refl _, by simp, by simp, H⟩
   case round =>
    clear H
    obtain ⟨hk2, rfl, ht, H⟩ := hrel
    have HT := Lib.hid ht
    clear ht
    by_cases hlt2 : 0 < gk
    ·obtain ⟨j, hj⟩ : ∃ j, es.length - gk = j := ⟨_, rfl⟩
     have hjl : j < es.length := by omega
     rw [hj] at HT ⊢
     obtain ⟨i, x, y, he⟩ := eg_at es hjl
     obtain rfl := H.rdAddr m4 (eR_pos he)
     have hp := at_e (A := some ⟨b9, o9, none⟩) (b := b9) (off := o9) he
     have hmt := meet_any ax ay bx b_y ((mm x).getD zP).x ((mm x).getD zP).y ((mm y).getD zP).x ((mm y).getD zP).y
     have hfv : f ⟨i, x, y⟩ = meetB ⟨ax, ay⟩ ⟨bx, b_y⟩ ((mm x).getD zP) ((mm y).getD zP) := by rw [← hf]
     obtain ⟨v1, hv1⟩ : ∃ v, meetB ⟨ax, ay⟩ ⟨bx, b_y⟩ ((mm x).getD zP) ((mm y).getD zP) = v := ⟨_, rfl⟩
     have e9 : meetB ⟨ax, ay⟩ ⟨bx, b_y⟩ ⟨((mm x).getD zP).x, ((mm x).getD zP).y⟩ ⟨((mm y).getD zP).x, ((mm y).getD zP).y⟩ = v1 := hv1
     rw [hv1] at hfv
     rw [e9] at hmt
     have HF := Lib.hid hfv
     have HE := Lib.hid he
     have HJ := Lib.hid hj
     clear hv1 hfv he hj hf e9
     cases v1
     ·have tk0 : True := trivial
      go_wp2_with (first
       | (go_at_call 56; (with_reducible refine (hmt _).mono ?_); rintro e w3 ⟨rfl, hb⟩; replace H := H.ext hb; clear hb; dsimp only)
       | (guard_target = wpList _ _ _ (_ :: _) _ _; (first | (refine plan3g7 ?_) | (refine plan3g4 ?_; clear H; (try clear w2); intro w2 H) | (refine plan3g6 ?_; intro b2; clear H; (try clear w2); intro w2 H; (clear tk0; rename Nat => b5)))))
      go_roundg (gk - 1)
      case rel => exact ⟨by omega, by have := HJ.out; congr 1; omega, by rw [show es.length - (gk - 1) = j + 1 by have := HJ.out; omega]; exact any_step HE.out HT.out HF.out, H.tail⟩
      case measure => omega
     ·have tk0 : True := trivial
      go_wp2_with (first
       | (go_at_call 56; (with_reducible refine (hmt _).mono ?_); rintro e w3 ⟨rfl, hb⟩; replace H := H.ext hb; clear hb; dsimp only)
       | (guard_target = wpList _ _ _ (_ :: _) _ _; (first | (refine plan3g7 ?_) | (refine plan3g4 ?_; clear H; (try clear w2); intro w2 H) | (refine plan3g6 ?_; intro b2; clear H; (try clear w2); intro w2 H; (clear tk0; rename Nat => b5)))))
      go_ret
      exact ⟨ret_b (by rw [← HV.out, any_yes HE.out HF.out]), H.below⟩
    ·obtain rfl : gk = 0 := by omega
     have tk0 : True := trivial
     go_wp2_with (first | fail)
     go_ret
     exact ⟨ret_b (by rw [← HV.out, ← HT.out, Nat.sub_zero, List.take_length]), H.below⟩
end Go.Proofs.YtlhmjhildlnokaaGreat
namespace Go.Proofs.YtlhmjhildlnokaaGreat
set_option linter.unusedVariables false
set_option linter.unusedSimpArgs false
open Go.RowKit Go.MapKept
variable {K V : Type}
theorem keys_perm {A A' : List (K × V)} (h : A.Perm A') : (A.map (·.1)).Perm (A'.map (·.1)) := h.map _
def MapAs (kf : K → Value) (vf : V → Value) (b : Nat) (A : List (K × V)) (w : World) : Prop :=
 ∃ es clock, ∃ L : List (K × V), w.heap[b]? = some (.map es clock) ∧ es.toList.map (fun e => (e.key, e.val)) = L.map (fun p => (kf p.1, vf p.2)) ∧ L.Perm A ∧ (A.map (·.1)).Nodup ∧ (es.toList.map (·.born)).Nodup ∧ ∀ e ∈ es.toList, e.born < clock
def mapA (kf : K → Value) (vf : V → Value) (b : Nat) (A : List (K × V)) : Res := .any false (fun k => k = b) (MapAs kf vf b A)
theorem mapA_holds {kf : K → Value} {vf : V → Value} {b : Nat} {A : List (K × V)} {w : World} (h : MapAs kf vf b A w) : (mapA kf vf b A).holds w := by
 intro w' hw
 obtain ⟨es, c, L, h1, h2⟩ := h
 exact ⟨es, c, L, by rw [hw b rfl]; exact h1, h2⟩
theorem MapAs.perm {kf : K → Value} {vf : V → Value} {b : Nat} {A A' : List (K × V)} {w : World} (h : MapAs kf vf b A w) (hp : A.Perm A') : MapAs kf vf b A' w := by
 obtain ⟨es, c, L, h1, h2, h3, h4, h5⟩ := h
 exact ⟨es, c, L, h1, h2, h3.trans hp, (keys_perm hp).nodup_iff.1 h4, h5⟩
variable {P : Program} {kt : TypeId} {kf : K → Value} {vf : V → Value} {B : Nat} {w0 w w' : World} {l l' : List Res} {ty et : TypeId} {b : Nat} {A : List (K × V)}
theorem Own.asA (H : Own B w0 w l) (hm : mapA kf vf b A ∈ l) : MapAs kf vf b A w := H.holds _ hm w fun _ _ => rfl
theorem Own.changeA {A' : List (K × V)} {l0 : List Res} {es : Array MapEntry} {clock : Nat} (H : Own B w0 w l) (hrep : Rep (mapA kf vf b A) (mapA kf vf b A') l l0) (h1 : w.heap[b]? = some (.map es clock)) (es' : Array MapEntry) (c' : Nat) (L' : List (K × V))
  (e1 : es'.toList.map (fun e => (e.key, e.val)) = L'.map (fun p => (kf p.1, vf p.2))) (e2 : L'.Perm A') (e3 : (A'.map (·.1)).Nodup) (e4 : (es'.toList.map (·.born)).Nodup) (e5 : ∀ e ∈ es'.toList, e.born < c') :
  Own B w0 { w with heap := w.heap.setIfInBounds b (.map es' c') } l0 := by
 have hlt := H.lt _ hrep.mem b rfl
 obtain ⟨g1, g2⟩ := heap_set (o' := .map es' c') h1
 refine H.change hrep rfl rfl (.mk6 rfl rfl rfl (by simp) (fun k hk => g2 k (by have := hlt.2 rfl; omega)) (Nat.le_refl _)) (fun k _ hne => g2 k hne) (mapA_holds ⟨es', c', L', g1, e1, e2, e3, e4, e5⟩) (fun k hk => ?_) (fun k hk => .inl hk)
 obtain rfl : k = b := hk
 simpa using hlt.1
variable [DecidableEq K]
def getA (A : List (K × V)) (k : K) : Option V := (firstI k A 0).map (·.2)
def cutA (A : List (K × V)) (k : K) : List (K × V) := A.filter fun p => decide (p.1 ≠ k)
theorem first_none {k : K} : ∀ {A : List (K × V)} {i : Nat}, firstI k A i = none ↔ k ∉ A.map (·.1)
 | [], _ => by simp [firstI]
 | (k', v) :: A, i => by
  unfold firstI
  by_cases h : k = k'
  ·rw [if_pos h]; simp [h]
  ·rw [if_neg h, first_none]; simp [h]
theorem first_at {k : K} {v : V} : ∀ {A : List (K × V)} {i : Nat}, (A.map (·.1)).Nodup → (k, v) ∈ A → ∃ j, firstI k A i = some (j, v)
 | (k', u) :: A, i, hn, h => by
  simp only [List.map_cons, List.nodup_cons] at hn
  unfold firstI
  rcases List.mem_cons.1 h with h | h
  ·injection h with h1 h2
   rw [if_pos h1]
   exact ⟨i, by rw [h2]⟩
  ·have hk : k ≠ k' := fun e => hn.1 (List.mem_map.2 ⟨(k, v), h, e⟩)
   rw [if_neg hk]
   exact first_at hn.2 h
theorem getA_some {A : List (K × V)} (hn : (A.map (·.1)).Nodup) {k : K} {v : V} : getA A k = some v ↔ (k, v) ∈ A := by
 constructor
 ·intro h
  unfold getA at h
  cases hf : firstI k A 0 with
  | none => rw [hf] at h; cases h
  | some p =>
   obtain ⟨j, u⟩ := p
   obtain ⟨d, h1, h2⟩ := first_ge hf
   rw [hf] at h
   obtain rfl : u = v := by simpa using h
   exact List.mem_of_getElem? h2
 ·intro h
  obtain ⟨j, hj⟩ := first_at (i := 0) hn h
  unfold getA; rw [hj]; rfl
theorem getA_none {A : List (K × V)} {k : K} : getA A k = none ↔ k ∉ A.map (·.1) := by
 unfold getA; rw [Option.map_eq_none_iff, first_none]
theorem getA_perm {A A' : List (K × V)} (h : A.Perm A') (hn : (A.map (·.1)).Nodup) (k : K) : getA A k = getA A' k := by
 have hn' : (A'.map (·.1)).Nodup := (keys_perm h).nodup_iff.1 hn
 apply Option.ext
 intro v
 rw [getA_some hn, getA_some hn', h.mem_iff]
theorem cutA_none {A : List (K × V)} {k : K} (h : k ∉ A.map (·.1)) : cutA A k = A := by
 unfold cutA
 rw [List.filter_eq_self]
 intro p hp
 simp
 intro e
 exact h (List.mem_map.2 ⟨p, hp, e⟩)
theorem cutA_mid {k : K} {u : V} {L1 L2 : List (K × V)} (hn : ((L1 ++ (k, u) :: L2).map (·.1)).Nodup) : cutA (L1 ++ (k, u) :: L2) k = L1 ++ L2 := by
 simp only [List.map_append, List.map_cons, List.nodup_append, List.nodup_cons] at hn
 have h1 : cutA L1 k = L1 := cutA_none fun h => hn.2.2 k h k (by simp) rfl
 have h2 : cutA L2 k = L2 := cutA_none hn.2.1.1
 unfold cutA at *
 rw [List.filter_append, List.filter_cons, h1, h2]
 simp
theorem cutA_perm {A A' : List (K × V)} (h : A.Perm A') (k : K) : (cutA A k).Perm (cutA A' k) := h.filter _
theorem cutA_nodup {A : List (K × V)} (hn : (A.map (·.1)).Nodup) (k : K) : ((cutA A k).map (·.1)).Nodup := hn.sublist (List.Sublist.map _ List.filter_sublist)
theorem cutA_not {A : List (K × V)} (k : K) : k ∉ (cutA A k).map (·.1) := by
 intro h
 obtain ⟨p, hp, e⟩ := List.mem_map.1 h
 have := (List.mem_filter.1 hp).2
 simp at this
 exact this e
theorem first_mid {k : K} {L : List (K × V)} {j : Nat} {u : V} (h : firstI k L 0 = some (j, u)) : ∃ L1 L2, L = L1 ++ (k, u) :: L2 ∧ L1.length = j := by
 obtain ⟨d, h1, h2⟩ := first_ge h
 obtain rfl : j = d := by omega
 obtain ⟨hlt, hx⟩ := List.getElem?_eq_some_iff.1 h2
 exact ⟨L.take j, L.drop (j + 1), by rw [← hx]; simp, by simp; omega⟩
theorem run_lookupA (hk : KeyOK P kt kf) (ht : P.underlying ty = some (.map kt et)) {z : V} (hz : ∀ w, (zeroValue et).run P w = .ok (vf z) w) (h : MapAs kf vf b A w) (k : K) (ok : Bool) :
  (Instr.lookup ty (.map (some b)) (kf k) ok).run P w = .ok (if ok then .tuple #[vf ((getA A k).getD z), .bool (getA A k).isSome] else vf ((getA A k).getD z)) w := by
 obtain ⟨es, c, L, h1, h2, h3, h4, _⟩ := h
 have hf := run_find hk k h2 w
 have hg : getA A k = (firstI k L 0).map (·.2) := (getA_perm h3 ((keys_perm h3).nodup_iff.2 h4) k).symm
 unfold Instr.lookup
 simp only [Sem.run_bind, run_underlying ht, Result.andThen_ok, MapKept.run_getObj_map h1, Sem.run_pure, hk.check, hf]
 rw [hg]
 cases hfk : firstI k L 0 with
 | none => cases ok <;> simp [hz]
 | some p => cases ok <;> simp
theorem born_set {es : Array MapEntry} {j : Nat} {key : Value} {val : Value} : (es.modify j fun e => { e with key := key, val := val }).toList.map (·.born) = es.toList.map (·.born) := by
 apply List.ext_getElem?
 intro i
 simp only [List.getElem?_map, Array.getElem?_toList, Array.getElem?_modify]
 by_cases hij : j = i
 ·subst hij; cases es[j]? <;> simp
 ·simp [hij]
theorem run_updateA {l0 : List Res} (hk : KeyOK P kt kf) (ht : P.underlying ty = some (.map kt et)) (H : Own B w0 w l) (k : K) (v : V) (hrep : Rep (mapA kf vf b A) (mapA kf vf b ((k, v) :: cutA A k)) l l0) :
  ∃ w', (Instr.mapUpdate ty (.map (some b)) (kf k) (vf v)).run P w = .ok () w' ∧ Own B w0 w' l0 := by
 obtain ⟨es, c, L, h1, h2, h3, h4, h5, h6⟩ := H.asA hrep.mem
 have hf := run_find hk k h2 w
 have hnL := (keys_perm h3).nodup_iff.2 h4
 have e3 : (((k, v) :: cutA A k).map (·.1)).Nodup := by
  rw [List.map_cons, List.nodup_cons]
  exact ⟨cutA_not k, cutA_nodup h4 k⟩
 unfold Instr.mapUpdate
 simp only [Sem.run_bind, run_underlying ht, Result.andThen_ok, MapKept.run_getObj_map h1, hk.check, hf]
 cases hfk : firstI k L 0 with
 | none =>
  refine ⟨_, by simp only [Option.map_none, MapKept.run_setObj_map _ h1]; rfl, H.changeA hrep h1 _ _ (L ++ [(k, v)]) (by simp [h2]) ?_ e3 ?_ ?_⟩
  ·have hc : cutA L k = L := cutA_none (first_none.1 hfk)
   refine (List.perm_append_singleton _ _).trans (.cons _ ?_)
   rw [← hc]; exact cutA_perm h3 k
  ·simp only [Array.toList_push, List.map_append, List.map_cons, List.map_nil]
   refine List.nodup_append.2 ⟨h5, by simp, fun x hx y hy => ?_⟩
   obtain ⟨e, he, rfl⟩ := List.mem_map.1 hx
   obtain rfl : y = c := by simpa using hy
   have := h6 e he; omega
  ·intro e he
   simp only [Array.toList_push, List.mem_append, List.mem_singleton] at he
   rcases he with he | rfl
   ·have := h6 e he; omega
   ·simp
 | some p =>
  obtain ⟨j, u⟩ := p
  obtain ⟨d, hd, hL⟩ := first_ge hfk
  obtain rfl : j = d := by omega
  have he : ∃ e, es[j]? = some e ∧ e.key = kf k := by
   have hh := congrArg (·[j]?) h2
   simp only [List.getElem?_map, hL, Option.map_some] at hh
   cases he : es.toList[j]? with
   | none => simp [he] at hh
   | some e => simp [he] at hh; exact ⟨e, by simpa using he, hh.1⟩
  obtain ⟨e, he, hek⟩ := he
  have hst : (Instr.keyThatStays (kf k) (kf k)).run P w = .ok (kf k) w := by simp [Instr.keyThatStays, hk.same]
  refine ⟨_, by simp only [Option.map_some, he, Option.getD_some, hek, Sem.run_bind, hst, Result.andThen_ok, MapKept.run_setObj_map _ h1]; rfl, H.changeA hrep h1 _ _ (L.set j (k, v)) ?_ ?_ e3 ?_ ?_⟩
  ·apply List.ext_getElem?
   intro i
   have hh := congrArg (·[i]?) h2
   simp only [List.getElem?_map, Array.getElem?_toList] at hh
   simp only [List.getElem?_map, Array.getElem?_toList, Array.getElem?_modify, List.getElem?_set]
   by_cases hij : j = i
   ·subst hij
    have : j < L.length := (List.getElem?_eq_some_iff.1 hL).1
    simp [he, this]
   ·simp [hij, hh]
  ·obtain ⟨L1, L2, rfl, rfl⟩ := first_mid hfk
   have hc := cutA_perm h3 k
   rw [cutA_mid hnL] at hc
   have : (L1 ++ (k, u) :: L2).set L1.length (k, v) = L1 ++ (k, v) :: L2 := by simp
   rw [this]
   exact List.perm_middle.trans (.cons _ hc)
  ·rw [born_set]; exact h5
  ·intro x hx
   have hb : x.born ∈ (es.modify j fun e => { e with key := kf k, val := vf v }).toList.map (·.born) := List.mem_map.2 ⟨x, hx, rfl⟩
   rw [born_set] at hb
   obtain ⟨y, hy, e⟩ := List.mem_map.1 hb
   rw [← e]; exact h6 y hy
end Go.Proofs.YtlhmjhildlnokaaGreat
namespace Go.Proofs.YtlhmjhildlnokaaGreat
set_option linter.unusedVariables false
set_option linter.unusedSectionVars false
set_option linter.unusedSimpArgs false
open Go.RowKit Go.MapKept
variable {K V : Type} [DecidableEq K]
variable {P : Program} {kt : TypeId} {kf : K → Value} {vf : V → Value} {B : Nat} {w0 w w' : World} {l l' : List Res} {ty et : TypeId} {b : Nat} {A : List (K × V)}
variable {o : Oper} {a : Act} {Q : Exit → Act → World → Prop} {x y z : Operand} {C : Act → World → Prop}
theorem o_makeA (kf : K → Value) (vf : V → Value) (ho : o.op = .makeMap ty none) (H : Own B w0 w l)
  (hk : ∀ w' b, Ext w w' → Own B w0 w' (mapA kf vf b [] :: l) → C (a.put o.dst (.map (some b))) w') : o.wp P a w C Q := by
 unfold Oper.wp execOp
 have : (Instr.makeMap ty none).run P w = .ok (.map (some w.heap.size)) (w.alloc (.map #[] 0)) := rfl
 simp only [ho, Sem.run_bind, Option.map_none, this]
 refine hk _ _ (below_alloc1 w _) ((H.ext (below_alloc1 w _)).add _ (mapA_holds ⟨#[], 0, [], heap_alloc_new w _, rfl, .refl _, by simp, by simp, by simp⟩) (fun k hk => ?_) (fun r' hr' => .inr fun k hk hk' => ?_))
 ·obtain rfl : k = w.heap.size := hk
  exact ⟨by simp, fun _ => H.base⟩
 ·obtain rfl : k = w.heap.size := hk
  exact absurd (H.lt r' hr' _ hk').1 (Nat.lt_irrefl _)
theorem o_okA (hK : KeyOK P kt kf) {zv : V} {k : K} (ho : o.op = .lookup ty x y true) (hx : a.eval x = .map (some b)) (hy : a.eval y = kf k) (H : Own B w0 w l) (hm : mapA kf vf b A ∈ l)
  (ht : P.underlying ty = some (.map kt et)) (hz : ∀ w, (zeroValue et).run P w = .ok (vf zv) w) (hk : C (a.put o.dst (.tuple #[vf ((getA A k).getD zv), .bool (getA A k).isSome])) w) : o.wp P a w C Q := by
 unfold Oper.wp execOp
 have := run_lookupA (P := P) hK ht hz (H.asA hm) k true
 simp only [ho, hx, hy, Sem.run_bind, this]
 exact hk
theorem q_getA {lf : List Res} {Kq : Act → Prop} (hK : KeyOK P kt kf) {zv : V} {k : K} (ho : o.op = .lookup ty x y false) (hx : a.eval x = .map (some b)) (hy : a.eval y = kf k) (hm : mapA kf vf b A ∈ lf)
  (ht : P.underlying ty = some (.map kt et)) (hz : ∀ w, (zeroValue et).run P w = .ok (vf zv) w) (hk : Kq (a.put o.dst (vf ((getA A k).getD zv)))) : o.quiet P a (Keeps B w0 lf) Kq :=
 ⟨_, fun w' ⟨l, H, hs⟩ => by
  unfold Oper.quietAt execOp
  have := run_lookupA (P := P) hK ht hz (H.asA (hs.mem hm)) k false
  simp only [ho, hx, hy, Sem.run_bind, this]
  exact ⟨rfl, rfl⟩, hk⟩
theorem o_setA {l0 : List (K × V) → List Res} (hK : KeyOK P kt kf) {k : K} {v : V} (ho : o.op = .mapUpdate ty x y z) (hx : a.eval x = .map (some b)) (hy : a.eval y = kf k) (hv : a.eval z = vf v) (H : Own B w0 w l)
  (hrep : ∀ A', Rep (mapA kf vf b A) (mapA kf vf b A') l (l0 A')) (ht : P.underlying ty = some (.map kt et)) (hk : ∀ w', Own B w0 w' (l0 ((k, v) :: cutA A k)) → C (a.put o.dst undef) w') : o.wp P a w C Q := by
 obtain ⟨w', h1, h2⟩ := run_updateA (P := P) hK ht H k v (hrep _)
 unfold Oper.wp execOp
 simp only [ho, hx, hy, hv, Sem.run_bind, h1]
 exact hk w' h2
variable {K V : Type} [DecidableEq K]
variable {P : Program} {kt : TypeId} {kf : K → Value} {vf : V → Value} {B : Nat} {w0 w w' : World} {l l' : List Res} {ty et : TypeId} {b : Nat} {A : List (K × V)}
variable {o : Oper} {a : Act} {Q : Exit → Act → World → Prop} {x y z : Operand} {C : Act → World → Prop}
def MapSt (kf : K → Value) (vf : V → Value) (b : Nat) (A : List (K × V)) (k : K) (st : Int) (w : World) : Prop :=
 ∃ es clock, ∃ L : List (K × V), ∃ (j : Nat) (u : V) (e : MapEntry), w.heap[b]? = some (.map es clock) ∧ es.toList.map (fun e => (e.key, e.val)) = L.map (fun p => (kf p.1, vf p.2)) ∧ L.Perm A ∧ (A.map (·.1)).Nodup ∧ (es.toList.map (·.born)).Nodup ∧ (∀ e ∈ es.toList, e.born < clock) ∧ L[j]? = some (k, u) ∧ es[j]? = some e ∧ (e.born : Int) = st
def mapSt (kf : K → Value) (vf : V → Value) (b : Nat) (A : List (K × V)) (k : K) (st : Int) : Res := .any false (fun k => k = b) (MapSt kf vf b A k st)
theorem mapSt_holds {k : K} {st : Int} (h : MapSt kf vf b A k st w) : (mapSt kf vf b A k st).holds w := by
 intro w' hw
 obtain ⟨es, c, L, j, u, e, h1, h2⟩ := h
 exact ⟨es, c, L, j, u, e, by rw [hw b rfl]; exact h1, h2⟩
theorem born_find : ∀ {l : List MapEntry} {j : Nat} {e : MapEntry}, (l.map (·.born)).Nodup → l[j]? = some e → l.findIdx? (fun e' => ((e'.born : Nat) : Int) == ((e.born : Nat) : Int)) = some j
 | [], _, _, _, h => by simp at h
 | a :: r, 0, e, hn, h => by
  obtain rfl : a = e := by simpa using h
  simp [List.findIdx?_cons]
 | a :: r, j + 1, e, hn, h => by
  simp only [List.map_cons, List.nodup_cons] at hn
  have h' : r[j]? = some e := by simpa using h
  have hne : a.born ≠ e.born := fun e1 => hn.1 (List.mem_map.2 ⟨e, List.mem_of_getElem? h', e1.symm⟩)
  have hb : (((a.born : Nat) : Int) == ((e.born : Nat) : Int)) = false := by
   simp only [beq_eq_false_iff_ne, ne_eq, Int.natCast_inj]; exact hne
  rw [List.findIdx?_cons, hb]
  simp [born_find hn.2 h']
theorem Own.changeSt {r : Res} {l0 : List Res} {es : Array MapEntry} {clock : Nat} (H : Own B w0 w l) (hr : r.ro = false) (hf : ∀ k, r.foot k ↔ k = b) {r' : Res} (hr' : r'.ro = false) (hf' : ∀ k, r'.foot k ↔ k = b) (hrep : Rep r r' l l0) (h1 : w.heap[b]? = some (.map es clock)) (es' : Array MapEntry) (c' : Nat)
  (hh : r'.holds { w with heap := w.heap.setIfInBounds b (.map es' c') }) : Own B w0 { w with heap := w.heap.setIfInBounds b (.map es' c') } l0 := by
 have hlt := H.lt _ hrep.mem b ((hf b).2 rfl)
 obtain ⟨g1, g2⟩ := heap_set (o' := .map es' c') h1
 refine H.change hrep hr hr' (.mk6 rfl rfl rfl (by simp) (fun k hk => g2 k (by have := hlt.2 hr; omega)) (Nat.le_refl _)) (fun k _ hne => g2 k fun e => hne ((hf k).2 e)) hh (fun k hk => ?_) (fun k hk => .inl ((hf k).2 ((hf' k).1 hk)))
 obtain rfl := (hf' k).1 hk
 simpa using hlt.1
theorem run_entryA {l0 : Int → List Res} (hk : KeyOK P kt kf) (ht : P.underlying ty = some (.map kt et)) {zv : V} (hz : ∀ w, (zeroValue et).run P w = .ok (vf zv) w) (H : Own B w0 w l) (k : K) (hrep : ∀ st, Rep (mapA kf vf b A) (mapSt kf vf b ((k, (getA A k).getD zv) :: cutA A k) k st) l (l0 st)) :
  ∃ w' v0 st, (Instr.mapEntry ty (.map (some b)) (kf k)).run P w = .ok (.tuple #[v0, .int .i64 st]) w' ∧ Own B w0 w' (l0 st) := by
 obtain ⟨es, c, L, h1, h2, h3, h4, h5, h6⟩ := H.asA (hrep 0).mem
 have hf := run_find hk k h2 w
 have hnL := (keys_perm h3).nodup_iff.2 h4
 have e3 : (((k, (getA A k).getD zv) :: cutA A k).map (·.1)).Nodup := by
  rw [List.map_cons, List.nodup_cons]
  exact ⟨cutA_not k, cutA_nodup h4 k⟩
 have hg : getA A k = (firstI k L 0).map (·.2) := (getA_perm h3 hnL k).symm
 obtain ⟨g1, g2⟩ : (∀ es' c', ({ w with heap := w.heap.setIfInBounds b (.map es' c') } : World).heap[b]? = some (.map es' c')) ∧ True := ⟨fun es' c' => (heap_set (o' := .map es' c') h1).1, trivial⟩
 unfold Instr.mapEntry
 simp only [Sem.run_bind, run_underlying ht, Result.andThen_ok, MapKept.run_getObj_map h1, hk.check, hf]
 cases hfk : firstI k L 0 with
 | none =>
  have hgn : getA A k = none := by rw [hg, hfk]; rfl
  refine ⟨_, _, (c : Int), by simp only [Option.map_none, Sem.run_bind, hz, Result.andThen_ok, MapKept.run_setObj_map _ h1]; rfl, ?_⟩
  refine H.changeSt (r := mapA kf vf b A) rfl (fun _ => Iff.rfl) rfl (fun _ => Iff.rfl) (hrep _) h1 _ _ (mapSt_holds (K := K) (V := V) ⟨_, _, L ++ [(k, zv)], L.length, zv, ⟨kf k, vf zv, c⟩, g1 _ _, by simp [h2], ?_, e3, ?_, ?_, by simp, ?_, rfl⟩)
  ·have hc : cutA L k = L := cutA_none (first_none.1 hfk)
   rw [hgn]
   refine (List.perm_append_singleton _ _).trans (.cons _ ?_)
   rw [← hc]; exact cutA_perm h3 k
  ·simp only [Array.toList_push, List.map_append, List.map_cons, List.map_nil]
   refine List.nodup_append.2 ⟨h5, by simp, fun x hx y hy => ?_⟩
   obtain ⟨e, he, rfl⟩ := List.mem_map.1 hx
   obtain rfl : y = c := by simpa using hy
   have := h6 e he; omega
  ·intro e he
   simp only [Array.toList_push, List.mem_append, List.mem_singleton] at he
   rcases he with he | rfl
   ·have := h6 e he; omega
   ·simp
  ·have hlen : es.size = L.length := by have := congrArg List.length h2; simpa using this
   rw [← hlen]; simp
 | some p =>
  obtain ⟨j, u⟩ := p
  obtain ⟨d, hd, hL⟩ := first_ge hfk
  obtain rfl : j = d := by omega
  have he : ∃ e, es[j]? = some e ∧ e.key = kf k := by
   have hh := congrArg (·[j]?) h2
   simp only [List.getElem?_map, hL, Option.map_some] at hh
   cases he : es.toList[j]? with
   | none => simp [he] at hh
   | some e => simp [he] at hh; exact ⟨e, by simpa using he, hh.1⟩
  obtain ⟨e, he, hek⟩ := he
  have hgs : getA A k = some u := by rw [hg, hfk]; rfl
  have hst : (Instr.keyThatStays (kf k) (kf k)).run P w = .ok (kf k) w := by simp [Instr.keyThatStays, hk.same]
  have hsame : (es.modify j fun e => { e with key := kf k }) = es := by
   apply Array.ext_getElem?
   intro i
   rw [Array.getElem?_modify]
   split
   ·rename_i h; subst h; rw [he]; simp [← hek]
   ·rfl
  refine ⟨_, _, (e.born : Int), by simp only [Option.map_some, he, Option.getD_some, hek, Sem.run_bind, hst, Result.andThen_ok, MapKept.run_setObj_map _ h1, hsame]; rfl, ?_⟩
  refine H.changeSt (r := mapA kf vf b A) rfl (fun _ => Iff.rfl) rfl (fun _ => Iff.rfl) (hrep _) h1 _ _ (mapSt_holds (K := K) (V := V) ⟨_, _, L, j, u, e, g1 _ _, h2, ?_, e3, h5, h6, hL, he, rfl⟩)
  rw [hgs]
  obtain ⟨L1, L2, rfl, rfl⟩ := first_mid hfk
  have hc := cutA_perm h3 k
  rw [cutA_mid hnL] at hc
  exact List.perm_middle.trans (.cons _ hc)
theorem run_storeA {l0 : List Res} {k : K} {st : Int} (H : Own B w0 w l) (v : V) (hrep : Rep (mapSt kf vf b A k st) (mapA kf vf b ((k, v) :: cutA A k)) l l0) :
  ∃ w', (Instr.entryStore ty (.map (some b)) (.int .i64 st) (vf v)).run P w = .ok () w' ∧ Own B w0 w' l0 := by
 obtain ⟨es, c, L, j, u, e, h1, h2, h3, h4, h5, h6, hL, he, hst⟩ := H.holds _ hrep.mem w fun _ _ => rfl
 subst hst
 have hnL := (keys_perm h3).nodup_iff.2 h4
 have e3 : (((k, v) :: cutA A k).map (·.1)).Nodup := by
  rw [List.map_cons, List.nodup_cons]
  exact ⟨cutA_not k, cutA_nodup h4 k⟩
 have hidx : es.findIdx? (fun e' => ((e'.born : Nat) : Int) == ((e.born : Nat) : Int)) = some j := by
  have := born_find (l := es.toList) h5 (by simpa using he)
  rw [← this]
  cases es; simp
 have hek : e.key = kf k := by
  have hh := congrArg (·[j]?) h2
  simp only [List.getElem?_map, hL, Option.map_some, Array.getElem?_toList, he] at hh
  injection hh with hh
  exact (Prod.mk.inj hh).1
 refine ⟨_, by simp only [Instr.entryStore, Sem.run_bind, MapKept.run_getObj_map h1, Result.andThen_ok, asInt, asIntOf, Sem.run_pure, hidx, MapKept.run_setObj_map _ h1]; rfl, ?_⟩
 obtain ⟨g1, g2⟩ := heap_set (o' := .map (es.modify j fun e => { e with val := vf v }) c) h1
 refine H.changeSt (r := mapSt kf vf b A k _) rfl (fun _ => Iff.rfl) rfl (fun _ => Iff.rfl) hrep h1 _ _ (mapA_holds ⟨_, _, L.set j (k, v), g1, ?_, ?_, e3, ?_, ?_⟩)
 ·apply List.ext_getElem?
  intro i
  have hh := congrArg (·[i]?) h2
  simp only [List.getElem?_map, Array.getElem?_toList] at hh
  simp only [List.getElem?_map, Array.getElem?_toList, Array.getElem?_modify, List.getElem?_set]
  by_cases hij : j = i
  ·subst hij
   have : j < L.length := (List.getElem?_eq_some_iff.1 hL).1
   simp [he, this, hek]
  ·simp [hij, hh]
 ·obtain ⟨L1, L2, rfl, rfl⟩ : ∃ L1 L2, L = L1 ++ (k, u) :: L2 ∧ L1.length = j := ⟨L.take j, L.drop (j + 1), by
   have hl := (List.getElem?_eq_some_iff.1 hL).1
   have := List.take_append_drop j L
   rw [List.drop_eq_getElem_cons hl, (List.getElem?_eq_some_iff.1 hL).2] at this
   exact this.symm, by have hl := (List.getElem?_eq_some_iff.1 hL).1; rw [List.length_take]; omega⟩
  have hc := cutA_perm h3 k
  rw [cutA_mid hnL] at hc
  have : (L1 ++ (k, u) :: L2).set L1.length (k, v) = L1 ++ (k, v) :: L2 := by simp
  rw [this]
  exact List.perm_middle.trans (.cons _ hc)
 ·have : (es.modify j fun e => { e with val := vf v }).toList.map (·.born) = es.toList.map (·.born) := by
   apply List.ext_getElem?
   intro i
   simp only [List.getElem?_map, Array.getElem?_toList, Array.getElem?_modify]
   by_cases hij : j = i
   ·subst hij; cases es[j]? <;> simp
   ·simp [hij]
  rw [this]; exact h5
 ·intro x hx
  obtain ⟨i, hi⟩ := List.getElem?_of_mem hx
  rw [Array.getElem?_toList, Array.getElem?_modify] at hi
  split at hi
  ·rename_i hij
   subst hij
   rw [he] at hi
   obtain rfl : _ = x := by simpa using hi
   exact h6 e (List.mem_of_getElem? (by simpa using he))
  ·exact h6 x (List.mem_of_getElem? (by simpa using hi))
theorem o_entA {l0 : Int → List Res} (hK : KeyOK P kt kf) {zv : V} {k : K} (ho : o.op = .mapEntry ty x y) (hx : a.eval x = .map (some b)) (hy : a.eval y = kf k) (H : Own B w0 w l)
  (hrep : ∀ st, Rep (mapA kf vf b A) (mapSt kf vf b ((k, (getA A k).getD zv) :: cutA A k) k st) l (l0 st)) (ht : P.underlying ty = some (.map kt et)) (hz : ∀ w, (zeroValue et).run P w = .ok (vf zv) w) (hk : ∀ w' v0 st, Own B w0 w' (l0 st) → C (a.put o.dst (.tuple #[v0, .int .i64 st])) w') : o.wp P a w C Q := by
 obtain ⟨w', v0, st, h1, h2⟩ := run_entryA (P := P) hK ht hz H k hrep
 unfold Oper.wp execOp
 simp only [ho, hx, hy, Sem.run_bind, h1]
 exact hk w' v0 st h2
theorem o_putA {l0 : List Res} {k : K} {st : Int} {v : V} (ho : o.op = .entryStore ty x y z) (hx : a.eval x = .map (some b)) (hy : a.eval y = .int .i64 st) (hv : a.eval z = vf v) (H : Own B w0 w l)
  (hrep : Rep (mapSt kf vf b A k st) (mapA kf vf b ((k, v) :: cutA A k)) l l0) (hk : ∀ w', Own B w0 w' l0 → C (a.put o.dst undef) w') : o.wp P a w C Q := by
 obtain ⟨w', h1, h2⟩ := run_storeA (P := P) (ty := ty) H v hrep
 unfold Oper.wp execOp
 simp only [ho, hx, hy, hv, Sem.run_bind, h1]
 exact hk w' h2
end Go.Proofs.YtlhmjhildlnokaaGreat
namespace Go.Proofs.YtlhmjhildlnokaaGreat
set_option linter.unusedVariables false
open Go.RowKit
variable {P : Program} {B : Nat} {w0 w w' : World} {l l' : List Res} {o : Oper} {a : Act} {Q : Exit → Act → World → Prop}
theorem Own.join (H : Own B w0 w l) (H' : Own w.heap.size w w' l') (hr : l'.all (fun r => !r.ro) = true) : Own B w0 w' (l' ++ l) := by
 have H1 := H.ext H'.below
 have ge : ∀ r ∈ l', ∀ k, r.foot k → w.heap.size ≤ k := fun r hm k hk => (H'.lt r hm k hk).2 (by have := List.all_eq_true.1 hr r hm; simpa using this)
 refine ⟨H1.below, H1.base, fun r hm => ?_, fun r hm k hk => ?_, List.pairwise_append.2 ⟨H'.apart, H1.apart, fun r hm r' hm' => .inr fun k hk hk' => ?_⟩⟩
 ·rcases List.mem_append.1 hm with h | h
  ·exact H'.holds r h
  ·exact H1.holds r h
 ·rcases List.mem_append.1 hm with h | h
  ·exact ⟨(H'.lt r h k hk).1, fun _ => Nat.le_trans H.base (ge r h k hk)⟩
  ·exact H1.lt r h k hk
 ·have := ge r hm k hk
  have := (H.lt r' hm' k hk').1
  omega
theorem Own.growSome {e size n : Nat} {v : Value} {xs : List Value} (H : Own B w0 w l) (hm : Res.grow e size v n xs ∈ l) (hn : 0 < n) (hs : 0 < size) : ∃ b cap, v = .slice (some ⟨b, 0, none⟩) n cap := by
 have h := H.holds _ hm
 rcases h.2 with ⟨rfl, rfl⟩ | ⟨g, cap, cur, rfl, _⟩
 ·have h1 := h.1
  simp at h1
  have := Nat.mul_pos hn hs
  omega
 ·exact ⟨g, cap, rfl⟩
theorem at_grow {e size n b c o : Nat} {xs cs : List Value} (h : (xs.drop o).take cs.length = cs) : (Res.grow e size (.slice (some ⟨b, 0, none⟩) n c) n xs).at b o cs := ⟨rfl, h⟩
variable {P : Program} {B : Nat} {w0 w w' : World} {l l' : List Res} {o : Oper} {a : Act} {Q : Exit → Act → World → Prop} {ty e : TypeId} {x y : Operand} {b off size n cap : Nat} {xs : List Value}
theorem setL_take (k : Nat) : ∀ (vs row : List Value) (off : Nat), (setL row off vs).take k = setL (row.take k) off vs
 | [], row, off => rfl
 | v :: r, row, off => by rw [setL, setL_take k r, List.take_set, setL]
theorem run_storeG {vs : List Value} {v : Value} (hv : v.cells.toList = vs) (H : Own B w0 w l) (hrep : Rep (.grow e size (.slice (some ⟨b, 0, none⟩) n cap) n xs) (.grow e size (.slice (some ⟨b, 0, none⟩) n cap) n (setL xs off vs)) l l') (hs : (sizeOf ty).run P w = .ok vs.length w) (hfit : off + vs.length ≤ xs.length) (h1 : vs.all (·.oneCell') = true) :
  ∃ w', (Instr.storeAt ty (.pointer (some ⟨b, off, none⟩)) v).run P w = .ok () w' ∧ Own B w0 w' l' := by
 have h := H.holds _ hrep.mem
 have hlt := H.lt _ hrep.mem b rfl
 have hxs := h.1
 rcases h.2 with ⟨h0, _⟩ | ⟨g, cap', cur, hv', hbg, hg, hnc, hcm, hcs, htake⟩
 ·cases h0
 ·injection hv' with e1 e2 e3
  injection e1 with e1
  injection e1 with e1
  subst e1 e3
  have hle : n * size ≤ cur.toList.length := by rw [Array.length_toList, hcs]; exact Nat.mul_le_mul_right _ hnc
  have hfit2 : off + vs.length ≤ cur.toList.length := by omega
  have h2 := run_storeCells_at P b off e vs 0 cur w hg (by simpa using hfit2) (fun u hu => List.all_eq_true.1 h1 u hu)
  refine ⟨w.setRow b (setL cur.toList off vs).toArray, ?_, ?_⟩
  ·rw [setL_eq vs cur.toList off hfit2]
   have hl : v.cells.size = vs.length := by rw [← hv]; simp
   simp only [Nat.add_zero] at h2
   simp only [Instr.storeAt, Instr.sureAddr, storeVar, Sem.run_bind, Sem.run_pure, Result.andThen_ok, hs, hl, ne_eq, not_true_eq_false, if_false, hv]
   simpa using h2
  ·have hsz : (w.setRow b (setL cur.toList off vs).toArray).heap.size = w.heap.size := by simp [World.setRow]
   have hk : ∀ k, k ≠ b → (w.setRow b (setL cur.toList off vs).toArray).heap[k]? = w.heap[k]? := fun k hk => by
    simp only [World.setRow, Array.getElem?_modify]
    rw [if_neg (fun e => hk e.symm)]
   have hlen : (setL cur.toList off vs).length = cur.size := by rw [setL_length vs _ off hfit2]; simp
   refine H.change hrep rfl rfl (.mk6 rfl rfl rfl (Nat.le_of_eq hsz.symm) (fun k hk' => hk k (by have := hlt.2 rfl; omega)) (Nat.le_refl _)) (fun k _ hne => hk k (fun e => hne (by rw [e]; rfl)))
    ⟨by rw [setL_length vs xs off hfit]; exact hxs, .inr ⟨b, cap, _, rfl, hbg, setRow_heap w b _ _ e (0, 0) hg, hnc, hcm, by simp [hlen, hcs], ?_⟩⟩ (fun k hk' => ?_) (fun k hk' => .inl hk')
   ·rw [← htake]
    exact setL_take _ _ _ _
   ·obtain rfl : b = k := by injection hk'
    rw [hsz]; exact hlt.1
theorem o_storeG {K : Act → World → Prop} {vs : List Value} (ho : o.op = .store ty x y) (hx : a.eval x = .pointer (some ⟨b, off, none⟩)) (H : Own B w0 w l) (hv : (a.eval y).cells.toList = vs)
  (hrep : Rep (.grow e size (.slice (some ⟨b, 0, none⟩) n cap) n xs) (.grow e size (.slice (some ⟨b, 0, none⟩) n cap) n (setL xs off vs)) l l') (hs : ∀ w, (sizeOf ty).run P w = .ok vs.length w) (hfit : off + vs.length ≤ xs.length) (h1 : vs.all (·.oneCell') = true)
  (hk : ∀ w', Own B w0 w' l' → K (a.put o.dst undef) w') : o.wp P a w K Q := by
 obtain ⟨w', h2, h3⟩ := run_storeG (P := P) hv H hrep (hs w) hfit h1
 unfold Oper.wp execOp
 simp only [ho, hx, Sem.run_bind, h2]
 exact hk _ h3
variable {P : Program} {o : Oper} {a : Act} {w w0 : World} {B : Nat} {rs : List Res} {Q : Exit → Act → World → Prop}
theorem Own.growForm {e size n : Nat} {v : Value} {xs : List Value} (H : Own B w0 w rs) (hm : Res.grow e size v n xs ∈ rs) : ∃ A c, v = .slice A n c := by
 have h := H.holds _ hm
 rcases h.2 with ⟨rfl, rfl⟩ | ⟨g, cap, cur, rfl, _⟩
 ·exact ⟨none, 0, rfl⟩
 ·exact ⟨_, _, rfl⟩
end Go.Proofs.YtlhmjhildlnokaaGreat
