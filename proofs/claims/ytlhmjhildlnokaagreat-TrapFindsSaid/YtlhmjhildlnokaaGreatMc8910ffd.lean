/-
  The library's slices.SortFunc at elements of one cell, as a contract on resources. Nothing of the program stands here.
-/
import Derived.Test.YtlhmjhildlnokaaGreatMd6b25c4b
import Derived.Test.YtlhmjhildlnokaaGreatM01095c5b
import Derived.Test.YtlhmjhildlnokaaGreatM586e9777
import Derived.Test.YtlhmjhildlnokaaGreatM28ca6b73
import Derived.Shelf.SlSortCmp.WholeK
import Derived.Shelf.SlSortCmp.Whole1
namespace Go.Proofs.YtlhmjhildlnokaaGreat
set_option linter.unusedVariables false
set_option linter.unusedSimpArgs false
open Go.RowKit
theorem geomSr1 {P Q : Prop} (k : Q) (h : Hold Q → InR 5 0 (.q 0 (.q 1 (.q 2 (.q 4 (.q 5 (.q 6 (.e 3 (.e 7 (.q 8 (.q 9 (.q 10 (.q 11 (.q 12 (.q 14 (.q 15 (.q 16 (.e 13 (.e 17 (.q 18 (.q 19 (.q 20 .nil))))))))))))))))))))) P := by exact aR0) : P := h ⟨k⟩
set_option maxRecDepth 100000 in
set_option maxHeartbeats 8000000 in
theorem refMeet_line (ax ay bx b_y cx cy dx dy : Int) (ia : InP ⟨ax, ay⟩) (ib : InP ⟨bx, b_y⟩) (ic : InP ⟨cx, cy⟩) (id_ : InP ⟨dx, dy⟩)
  (z1 : turnZ ⟨ax, ay⟩ ⟨bx, b_y⟩ ⟨cx, cy⟩ = 0) (z2 : turnZ ⟨ax, ay⟩ ⟨bx, b_y⟩ ⟨dx, dy⟩ = 0) (w : World) :
  Calls Tryz.prog 44 #[pV ax ay, pV bx b_y, pV cx cy, pV dx dy] w fun e w' => e = .returned (.bool (meetR ⟨ax, ay⟩ ⟨bx, b_y⟩ ⟨cx, cy⟩ ⟨dx, dy⟩)) ∧ Below w.heap.size w w' := by
 have H := Own.start w
 have ev : meetR ⟨ax, ay⟩ ⟨bx, b_y⟩ ⟨cx, cy⟩ ⟨dx, dy⟩ = (onR ⟨ax, ay⟩ ⟨cx, cy⟩ ⟨dx, dy⟩ || (onR ⟨bx, b_y⟩ ⟨cx, cy⟩ ⟨dx, dy⟩ || (onR ⟨cx, cy⟩ ⟨ax, ay⟩ ⟨bx, b_y⟩ || (onR ⟨dx, dy⟩ ⟨ax, ay⟩ ⟨bx, b_y⟩ || (withinB ⟨ax, ay⟩ ⟨cx, cy⟩ ⟨dx, dy⟩ && withinB ⟨bx, b_y⟩ ⟨cx, cy⟩ ⟨dx, dy⟩))))) := by
  unfold meetR; rw [if_pos ⟨z1, z2⟩]
 rw [ev]; clear ev
 have t1 := refTurn_any ax ay bx b_y cx cy ia ib ic
 have t2 := refTurn_any ax ay bx b_y dx dy ia ib id_
 rw [z1] at t1
 rw [z2] at t2
 clear z1 z2
 have o1 := refOn_any ax ay cx cy dx dy ia ic id_
 have o2 := refOn_any bx b_y cx cy dx dy ib ic id_
 have o3 := refOn_any cx cy ax ay bx b_y ic ia ib
 have o4 := refOn_any dx dy ax ay bx b_y id_ ia ib
 have o5 := refWithin_any ax ay cx cy dx dy ia ic id_
 have o6 := refWithin_any bx b_y cx cy dx dy ib ic id_
 clear ia ib ic id_
 generalize onR ⟨ax, ay⟩ ⟨cx, cy⟩ ⟨dx, dy⟩ = v1 at o1 ⊢
 generalize onR ⟨bx, b_y⟩ ⟨cx, cy⟩ ⟨dx, dy⟩ = v2 at o2 ⊢
 generalize onR ⟨cx, cy⟩ ⟨ax, ay⟩ ⟨bx, b_y⟩ = v3 at o3 ⊢
 generalize onR ⟨dx, dy⟩ ⟨ax, ay⟩ ⟨bx, b_y⟩ = v4 at o4 ⊢
 generalize withinB ⟨ax, ay⟩ ⟨cx, cy⟩ ⟨dx, dy⟩ = v5 at o5 ⊢
 generalize withinB ⟨bx, b_y⟩ ⟨cx, cy⟩ ⟨dx, dy⟩ = v6 at o6 ⊢
 obtain ⟨v, hv⟩ : ∃ v, (v1 || (v2 || (v3 || (v4 || (v5 && v6))))) = v := ⟨_, rfl⟩
 rw [hv]
 have HV := Lib.hid hv
 clear hv
 go_enter Tryz.func44, Tryz.ntmps44
 go_wp2_with (first
  | go_big_skip
  | (go_at_call 30; (with_reducible refine (t1 _).mono ?_); rintro e w3 ⟨rfl, hb⟩; replace H := H.ext hb; clear hb; dsimp only; (skip))
  | (go_at_call 30; (with_reducible refine (t2 _).mono ?_); rintro e w3 ⟨rfl, hb⟩; replace H := H.ext hb; clear hb; dsimp only; (skip))
  | (go_at_call 28; (with_reducible refine (o1 _).mono ?_); rintro e w3 ⟨rfl, hb⟩; replace H := H.ext hb; clear hb; dsimp only; (skip))
  | (go_at_call 28; (with_reducible refine (o2 _).mono ?_); rintro e w3 ⟨rfl, hb⟩; replace H := H.ext hb; clear hb; dsimp only; (skip))
  | (go_at_call 28; (with_reducible refine (o3 _).mono ?_); rintro e w3 ⟨rfl, hb⟩; replace H := H.ext hb; clear hb; dsimp only; (skip))
  | (go_at_call 28; (with_reducible refine (o4 _).mono ?_); rintro e w3 ⟨rfl, hb⟩; replace H := H.ext hb; clear hb; dsimp only; (skip))
  | (go_at_call 47; (with_reducible refine (o5 _).mono ?_); rintro e w3 ⟨rfl, hb⟩; replace H := H.ext hb; clear hb; dsimp only; (skip))
  | (go_at_call 47; (with_reducible refine (o6 _).mono ?_); rintro e w3 ⟨rfl, hb⟩; replace H := H.ext hb; clear hb; dsimp only; (skip))
  | ((guard_target = wpList _ _ _ (_ :: _) _ _); (first | (refine aa335462 ?_) | (refine a32a6bca ?_; intro b2; clear H; (try clear w2); intro w2 H))))
 all_goals
  go_ret
  exact ⟨ret_b (by rw [← HV.out]; simp [*]), H.below⟩
set_option maxRecDepth 100000 in
set_option maxHeartbeats 8000000 in
theorem refMeet_apart (ax ay bx b_y cx cy dx dy : Int) (ia : InP ⟨ax, ay⟩) (ib : InP ⟨bx, b_y⟩) (ic : InP ⟨cx, cy⟩) (id_ : InP ⟨dx, dy⟩)
  (z : ¬ (turnZ ⟨ax, ay⟩ ⟨bx, b_y⟩ ⟨cx, cy⟩ = 0 ∧ turnZ ⟨ax, ay⟩ ⟨bx, b_y⟩ ⟨dx, dy⟩ = 0)) (w : World) :
  Calls Tryz.prog 44 #[pV ax ay, pV bx b_y, pV cx cy, pV dx dy] w fun e w' => e = .returned (.bool (meetR ⟨ax, ay⟩ ⟨bx, b_y⟩ ⟨cx, cy⟩ ⟨dx, dy⟩)) ∧ Below w.heap.size w w' := by
 have H := Own.start w
 have ev : meetR ⟨ax, ay⟩ ⟨bx, b_y⟩ ⟨cx, cy⟩ ⟨dx, dy⟩ = (!((decide ((⟨ax, ay⟩ : Pt) = ⟨cx, cy⟩) || decide ((⟨ax, ay⟩ : Pt) = ⟨dx, dy⟩)) || (decide ((⟨bx, b_y⟩ : Pt) = ⟨cx, cy⟩) || decide ((⟨bx, b_y⟩ : Pt) = ⟨dx, dy⟩))) &&
   !(decide (turnZ ⟨ax, ay⟩ ⟨bx, b_y⟩ ⟨cx, cy⟩ = turnZ ⟨ax, ay⟩ ⟨bx, b_y⟩ ⟨dx, dy⟩) || decide (turnZ ⟨cx, cy⟩ ⟨dx, dy⟩ ⟨ax, ay⟩ = turnZ ⟨cx, cy⟩ ⟨dx, dy⟩ ⟨bx, b_y⟩))) := by
  unfold meetR; rw [if_neg z]
  by_cases h : ((⟨ax, ay⟩ : Pt) = ⟨cx, cy⟩ ∨ (⟨ax, ay⟩ : Pt) = ⟨dx, dy⟩) ∨ (⟨bx, b_y⟩ : Pt) = ⟨cx, cy⟩ ∨ (⟨bx, b_y⟩ : Pt) = ⟨dx, dy⟩
  ·rw [if_pos h]
   have : ((decide ((⟨ax, ay⟩ : Pt) = ⟨cx, cy⟩) || decide ((⟨ax, ay⟩ : Pt) = ⟨dx, dy⟩)) || (decide ((⟨bx, b_y⟩ : Pt) = ⟨cx, cy⟩) || decide ((⟨bx, b_y⟩ : Pt) = ⟨dx, dy⟩))) = true := by
    simp only [Bool.or_eq_true, decide_eq_true_eq]; exact h
   rw [this]; rfl
  ·rw [if_neg h]
   have : ((decide ((⟨ax, ay⟩ : Pt) = ⟨cx, cy⟩) || decide ((⟨ax, ay⟩ : Pt) = ⟨dx, dy⟩)) || (decide ((⟨bx, b_y⟩ : Pt) = ⟨cx, cy⟩) || decide ((⟨bx, b_y⟩ : Pt) = ⟨dx, dy⟩))) = false := by
    rw [Bool.eq_false_iff]; simp only [ne_eq, Bool.or_eq_true, decide_eq_true_eq]; exact h
   rw [this]; rfl
 rw [ev]; clear ev
 have t1 := refTurn_any ax ay bx b_y cx cy ia ib ic
 have t2 := refTurn_any ax ay bx b_y dx dy ia ib id_
 have t3 := refTurn_any cx cy dx dy ax ay ic id_ ia
 have t4 := refTurn_any cx cy dx dy bx b_y ic id_ ib
 have e1 := eq_pt ax ay cx cy
 have e2 := eq_pt ax ay dx dy
 have e3 := eq_pt bx b_y cx cy
 have e4 := eq_pt bx b_y dx dy
 rw [← pt_eq] at e1 e2 e3 e4
 clear ia ib ic id_
 generalize turnZ ⟨ax, ay⟩ ⟨bx, b_y⟩ ⟨cx, cy⟩ = z1 at t1 z ⊢
 generalize turnZ ⟨ax, ay⟩ ⟨bx, b_y⟩ ⟨dx, dy⟩ = z2 at t2 z ⊢
 generalize turnZ ⟨cx, cy⟩ ⟨dx, dy⟩ ⟨ax, ay⟩ = z3 at t3 ⊢
 generalize turnZ ⟨cx, cy⟩ ⟨dx, dy⟩ ⟨bx, b_y⟩ = z4 at t4 ⊢
 generalize decide ((⟨ax, ay⟩ : Pt) = ⟨cx, cy⟩) = u1 at e1 ⊢
 generalize decide ((⟨ax, ay⟩ : Pt) = ⟨dx, dy⟩) = u2 at e2 ⊢
 generalize decide ((⟨bx, b_y⟩ : Pt) = ⟨cx, cy⟩) = u3 at e3 ⊢
 generalize decide ((⟨bx, b_y⟩ : Pt) = ⟨dx, dy⟩) = u4 at e4 ⊢
 obtain ⟨v, hv⟩ : ∃ v, (!((u1 || u2) || (u3 || u4)) && !(decide (z1 = z2) || decide (z3 = z4))) = v := ⟨_, rfl⟩
 rw [hv]
 have HV := Lib.hid hv
 clear hv
 have hz : (z1 == 0) = false ∨ ((z1 == 0) = true ∧ (z2 == 0) = false) := by
  by_cases h : z1 = 0
  ·exact .inr ⟨by simpa using h, by simpa using fun h2 => z ⟨h, h2⟩⟩
  ·exact .inl (by simpa using h)
 clear z
 have hq : decide (z1 = z2) = (z1 == z2) := by rw [Bool.eq_iff_iff]; simp
 have hq2 : decide (z3 = z4) = (z3 == z4) := by rw [Bool.eq_iff_iff]; simp
 rw [hq, hq2] at HV
 clear hq2
 obtain ⟨q, eq⟩ : ∃ q, (z1 == z2) = q := ⟨_, rfl⟩
 rw [eq] at HV
 clear hq
 rcases hz with hz | ⟨hz, hz'⟩ <;> cases q
 all_goals
  go_enter Tryz.func44, Tryz.ntmps44
  go_wp2_with (first
   | go_big_skip
   | (guard_target = Code.wp _ (Code.region 5 _ true) _ _ _; refine geomSr1 ?_; clear H; (try clear w2); intro w2 H)
   | (go_at_call 30; (with_reducible refine (t1 _).mono ?_); rintro e w3 ⟨rfl, hb⟩; replace H := H.ext hb; clear hb; dsimp only; (first | (refine a8c34bfe ?_; clear hK K) | skip))
   | (go_at_call 30; (with_reducible refine (t2 _).mono ?_); rintro e w3 ⟨rfl, hb⟩; replace H := H.ext hb; clear hb; dsimp only; (first | (refine a8c34bfe ?_; clear hK K) | skip))
   | (go_at_call 30; (with_reducible refine (t3 _).mono ?_); rintro e w3 ⟨rfl, hb⟩; replace H := H.ext hb; clear hb; dsimp only; (refine a8c34bfe ?_; clear hK K))
   | (go_at_call 30; (with_reducible refine (t4 _).mono ?_); rintro e w3 ⟨rfl, hb⟩; replace H := H.ext hb; clear hb; dsimp only; (refine a8c34bfe ?_; clear hK K))
   | ((first | guard_target = wpList _ _ _ (_ :: _) _ _ | guard_target = wpTree _ _ _ _ _ _ _); (first | (refine aa335462 ?_) | (refine a32a6bca ?_; intro b2; clear H; (try clear w2); intro w2 H) | (guard_target = wpTree _ _ _ Tr.nil _ _ _; refine tree_nil ?_) | (refine ace93fc0 ?_; intro K hK))))
  all_goals
   go_ret
   exact ⟨ret_b (by rw [← HV.out]; simp [*]), H.below⟩
theorem refMeet_any (ax ay bx b_y cx cy dx dy : Int) (ia : InP ⟨ax, ay⟩) (ib : InP ⟨bx, b_y⟩) (ic : InP ⟨cx, cy⟩) (id_ : InP ⟨dx, dy⟩) (w : World) :
  Calls Tryz.prog 44 #[pV ax ay, pV bx b_y, pV cx cy, pV dx dy] w fun e w' => e = .returned (.bool (meetR ⟨ax, ay⟩ ⟨bx, b_y⟩ ⟨cx, cy⟩ ⟨dx, dy⟩)) ∧ Below w.heap.size w w' := by
 by_cases z : turnZ ⟨ax, ay⟩ ⟨bx, b_y⟩ ⟨cx, cy⟩ = 0 ∧ turnZ ⟨ax, ay⟩ ⟨bx, b_y⟩ ⟨dx, dy⟩ = 0
 ·exact refMeet_line ax ay bx b_y cx cy dx dy ia ib ic id_ z.1 z.2 w
 ·exact refMeet_apart ax ay bx b_y cx cy dx dy ia ib ic id_ z w
def rpt (vs : List Vt) (id : Int) : Pt := ((vs.find? fun v => v.id == id).map (·.p)).getD ⟨0, 0⟩
theorem rpt_some {vs : List Vt} {id i x y : Int} (h : (vs.find? fun v => v.id == id) = some ⟨i, ⟨x, y⟩⟩) : rpt vs id = ⟨x, y⟩ := by unfold rpt; rw [h]; rfl
theorem find_idx {α : Type} {f : α → Bool} : ∀ {l : List α} {a : α}, l.find? f = some a → ∃ k, l.findIdx? f = some k ∧ l[k]? = some a
 | [], a, h => by simp at h
 | b :: l, a, h => by
  by_cases hb : f b = true
  ·rw [List.find?_cons_of_pos hb] at h
   exact ⟨0, by simp [List.findIdx?_cons, hb], by simpa using h⟩
  ·rw [List.find?_cons_of_neg hb] at h
   obtain ⟨k, h1, h2⟩ := find_idx h
   exact ⟨k + 1, by rw [List.findIdx?_cons, h1]; simp [hb], by simpa using h2⟩
theorem inB_P {a : Pt} (h : inB a = true) : InP a := of_decide_eq_true h
def linksB (es : List Eg) (a b : Int) : Bool := es.any fun e => (e.a == a && e.b == b) || (e.a == b && e.b == a)
def onWayR (vs : List Vt) (a b : Pt) : Bool := vs.any fun v => onR v.p a b
def meetsR (vs : List Vt) (es : List Eg) (a b : Pt) : Bool := es.any fun e => meetR a b (rpt vs e.a) (rpt vs e.b)
theorem trap1x1 {P Q : Prop} (k : Q) (h : Hold Q → P := by (intro kk; guard_target = wpList _ _ _ (Oper.mk _ (.load _ _) _ _ _ _ :: _) _ _; (with_reducible refine BigFrame.wpList_want ?_ (fun K hK => ?_)); exact rfl; (refine o_loadTl (t0 := ?_) (t1 := ?_) (t2 := ?_) (t3 := ?_) (t4 := ?_) (t5 := ?_) (t6 := ?_) (t7 := ?_) rfl rfl H ?_ ?_ ?_ (hK _ _ ?_); rotate_left 8; (repeat first | exact .head _ | apply List.Mem.tail); (focus (intro _; simp; done)); (focus (intro _; simp; done))); clear hK K; simp only [Act.put, List.setIfInBounds_toArray, List.set_cons_succ, List.set_cons_zero]; exact kk.out)) : P := h ⟨k⟩
theorem trap1g2 {P Q : Prop} (k : Q) (h : Hold Q → P := by (intro kk; (first | (guard_target = wpList _ _ _ (Oper.mk _ (.load _ _) _ _ _ _ :: _) _ _; exact trap1x1 kk.out) | (guard_target = wpList _ _ _ (Oper.mk _ (.load _ _) _ _ _ _ :: _) _ _; exact a15dc6b3 kk.out)))) : P := h ⟨k⟩
theorem trap1x3 {P Q : Prop} (k : Q) (h : Hold Q → P := by (intro kk; guard_target = wpList _ _ _ (Oper.mk _ (.load _ _) _ _ _ _ :: _) _ _; (with_reducible refine BigFrame.wpList_want ?_ (fun K hK => ?_)); exact rfl; (refine o_loadSa (t0 := ?_) (t1 := ?_) (t2 := ?_) (t3 := ?_) rfl rfl H ?_ ?_ ?_ (hK _ _ ?_); rotate_left 4; (repeat first | exact .head _ | apply List.Mem.tail); (focus (intro _; simp; done)); (focus (intro _; simp; done))); clear hK K; simp only [Act.put, List.setIfInBounds_toArray, List.set_cons_succ, List.set_cons_zero]; exact kk.out)) : P := h ⟨k⟩
theorem trap1x4 {P Q : Prop} (k : Q) (h : Hold Q → P := by (intro kk; guard_target = wpTreeC _ _ _ (Tr.q _ _) _ _ _; (with_reducible refine treeC_quiet (o := ?_) (aK H) ?_ ?_ ?_ (fun K hK => ?_)); rotate_left 1; exact rfl; exact rfl; exact rfl; simp only [List.getElem_toArray, List.getElem_cons_succ, List.getElem_cons_zero]; (guard_target = Oper.quiet _ (Oper.mk _ (.load _ _) _ _ _ _) _ _ _; (first | (refine q_loadSa (t0 := ?_) (t1 := ?_) (t2 := ?_) (t3 := ?_) rfl rfl ?_ ?_ ?_ (hK _ ?_); rotate_left 4; (repeat first | exact .head _ | apply List.Mem.tail); (focus (intro _; simp; done)); (focus (intro _; simp; done))) | (refine q_loadSb (t0 := ?_) (t1 := ?_) (t2 := ?_) (t3 := ?_) rfl rfl ?_ ?_ ?_ (hK _ ?_); rotate_left 4; (repeat first | exact .head _ | apply List.Mem.tail); (focus (intro _; simp; done)); (focus (intro _; simp; done)))); clear hK K; simp only [Act.put, List.setIfInBounds_toArray, List.set_cons_succ, List.set_cons_zero]); exact kk.out)) : P := h ⟨k⟩
theorem trap1g5 {P Q : Prop} (k : Q) (h : Hold Q → P := by (intro kk; (first | (guard_target = wpList _ _ _ (Oper.mk _ (.load _ _) _ _ _ _ :: _) _ _; exact trap1x3 kk.out) | (guard_target = wpTreeC _ _ _ (Tr.q _ _) _ _ _; exact trap1x4 kk.out) | (guard_target = wpTreeC _ _ _ (Tr.q _ _) _ _ _; exact a9e94fc6 kk.out)))) : P := h ⟨k⟩
theorem trap1r1 {P Q : Prop} (k : Q) (h : Hold Q → InR 2 0 (.q 0 (.q 1 (.q 2 (.q 3 (.q 4 (.q 5 (.q 6 (.q 7 (.q 8 (.q 9 (.q 10 (.q 11 (.q 12 (.q 13 (.e 14 (.e 15 (.q 16 .nil))))))))))))))))) P := by exact aRC0) : P := h ⟨k⟩
theorem trap1r2 {P Q : Prop} (k : Q) (h : Hold Q → InR 3 0 (.q 0 (.q 1 (.q 2 (.q 3 (.q 4 (.q 5 (.q 6 (.q 7 (.q 8 (.q 9 (.q 10 (.q 11 (.q 12 (.q 13 (.q 14 (.q 15 (.q 16 (.q 17 (.q 18 (.q 19 (.q 20 (.q 21 (.q 22 (.e 23 (.e 24 (.q 25 .nil)))))))))))))))))))))))))) P := by exact aRC0) : P := h ⟨k⟩
def orZ : List Int → Int
 | [] => 0
 | x :: l => if x = 0 then orZ l else x
def iR (l : List Int) : List Value := l.map (Value.int .i64)
theorem iR_get {l : List Int} {j : Nat} {x : Int} (h : l[j]? = some x) : (iR l)[j]? = some (.int .i64 x) := by simp [iR, h]
theorem or_zero {l : List Int} (h : ∀ x ∈ l, x = 0) : orZ l = 0 := by
 induction l with
 | nil => rfl
 | cons a l ih =>
  unfold orZ
  rw [if_pos (h a (by simp)), ih fun x hx => h x (by simp [hx])]
theorem or_at : ∀ {l : List Int} {j : Nat} {x : Int}, (∀ y ∈ l.take j, y = 0) → l[j]? = some x → x ≠ 0 → orZ l = x
 | [], j, x, _, h, _ => by simp at h
 | a :: l, 0, x, _, h, hx => by
  obtain rfl : a = x := by simpa using h
  unfold orZ; rw [if_neg hx]
 | a :: l, j + 1, x, hz, h, hx => by
  unfold orZ
  rw [if_pos (hz a (by simp)), or_at (j := j) (fun y hy => hz y (by simp [hy])) (by simpa using h) hx]
set_option maxRecDepth 100000 in
set_option maxHeartbeats 4000000 in
theorem cmpOr_any (xs : List Int) (A : Option Addr) (n c : Nat) (F : Nat → Prop) (w : World) (hn : n = xs.length) (hs : Sl F w A (iR xs)) (hl : n ≤ 1000000) :
  Calls Tryz.prog 34 #[.slice A n c] w fun e w' => e = .returned (.int .i64 (orZ xs)) ∧ Below w.heap.size w w' := by
 obtain ⟨b0, o0, H, f0⟩ := (Own.start w).addSl (hs.ro (by rfl))
 clear hs
 have HN := Lib.hid hn
 clear hn
 go_enter Tryz.func34, Tryz.ntmps34
 go_wp2_with (first | fail)
 go_loopg [8] n (fun k i wr => k ≤ n ∧ i = .int .i64 ((n - k : Nat) : Int) ∧ (∀ y ∈ xs.take (n - k), y = 0) ∧ Own w.heap.size w wr [.rd A b0 o0 (iR xs)])
 case atStart => exact ⟨Nat.le_refl _, by simp, by simp, H⟩
 case round =>
  clear H
  obtain ⟨hk, rfl, hz, H⟩ := hrel
  by_cases hlt : 0 < gk
  ·obtain ⟨j, hj⟩ : ∃ j, n - gk = j := ⟨_, rfl⟩
   have hjl : j < n := by omega
   rw [hj] at hz ⊢
   obtain ⟨x, he⟩ : ∃ x, xs[j]? = some x := ⟨_, List.getElem?_eq_getElem (by have := HN.out; omega)⟩
   have he2 := iR_get he
   obtain rfl := H.rdAddr m0 (Nat.lt_of_le_of_lt (Nat.zero_le _) (List.getElem?_eq_some_iff.1 he2).1)
   have hp := at_rd (A := some ⟨b0, o0, none⟩) (b := b0) (off := o0) he2
   obtain ⟨v, hv⟩ : ∃ v, (x != 0) = v := ⟨_, rfl⟩
   have HE := Lib.hid he
   have HJ := Lib.hid hj
   have HZ := Lib.hid hz
   have HV := Lib.hid hv
   clear he he2 hj hz
   cases v
   ·go_wp2_with (guard_target = wpList _ _ _ (_ :: _) _ _; (refine a15dc6b3 ?_))
    go_roundg (gk - 1)
    case rel =>
     refine ⟨by omega, by have := HJ.out; congr 1; omega, ?_, H⟩
     rw [show n - (gk - 1) = j + 1 by have := HJ.out; omega, List.take_add_one, HE.out]
     intro y hy
     simp only [Option.toList, List.mem_append, List.mem_singleton] at hy
     rcases hy with hy | rfl
     ·exact HZ.out y hy
     ·simpa using HV.out
    case measure => omega
   ·go_wp2_with (guard_target = wpList _ _ _ (_ :: _) _ _; (refine a15dc6b3 ?_))
    have hor := or_at HZ.out HE.out (by simpa using HV.out)
    go_ret
    exact ⟨by rw [hor]; rfl, H.below⟩
  ·obtain rfl : gk = 0 := by omega
   rw [Nat.sub_zero, List.take_of_length_le (by have := HN.out; omega)] at hz
   have hor := or_zero hz
   clear hz
   go_wp2_with (first | fail)
   go_ret
   exact ⟨by rw [hor]; rfl, H.below⟩
def cmpZ (a b : Int) : Int := if a < b then -1 else if b < a then 1 else 0
set_option maxRecDepth 100000 in
set_option maxHeartbeats 4000000 in
theorem isNaN_any (a : Int) (w : World) : Calls Tryz.prog 54 #[.int .i64 a] w fun e w' => e = .returned (.bool false) ∧ Below w.heap.size w w' := by
 have H := Own.start w
 go_enter Tryz.func54, Tryz.ntmps54
 go_wp2_with (first | fail)
 go_ret
 exact ⟨by simp, H.below⟩
set_option maxRecDepth 100000 in
set_option maxHeartbeats 4000000 in
theorem cmpCompare_any (a b : Int) (w : World) : Calls Tryz.prog 36 #[.int .i64 a, .int .i64 b] w fun e w' => e = .returned (.int .i64 (cmpZ a b)) ∧ Below w.heap.size w w' := by
 have H := Own.start w
 obtain ⟨v1, hv1⟩ : ∃ v, decide (a < b) = v := ⟨_, rfl⟩
 obtain ⟨v2, hv2⟩ : ∃ v, decide (b < a) = v := ⟨_, rfl⟩
 have hz : cmpZ a b = if v1 then -1 else if v2 then 1 else 0 := by
  unfold cmpZ; rw [← hv1, ← hv2]; simp
 have HZ := Lib.hid hz
 clear hz
 cases v1
 ·cases v2
  ·go_enter Tryz.func36, Tryz.ntmps36
   go_wp2_with (go_at_call 54; (with_reducible refine (isNaN_any _ _).mono ?_); rintro e w3 ⟨rfl, hb⟩; replace H := H.ext hb; clear hb; dsimp only)
   go_ret
   exact ⟨by rw [HZ.out]; rfl, H.below⟩
  ·go_enter Tryz.func36, Tryz.ntmps36
   go_wp2_with (go_at_call 54; (with_reducible refine (isNaN_any _ _).mono ?_); rintro e w3 ⟨rfl, hb⟩; replace H := H.ext hb; clear hb; dsimp only)
   go_ret
   exact ⟨by rw [HZ.out]; rfl, H.below⟩
 ·go_enter Tryz.func36, Tryz.ntmps36
  go_wp2_with (go_at_call 54; (with_reducible refine (isNaN_any _ _).mono ?_); rintro e w3 ⟨rfl, hb⟩; replace H := H.ext hb; clear hb; dsimp only)
  go_ret
  exact ⟨by rw [HZ.out]; rfl, H.below⟩
section
variable {P : Program} {o : Oper} {a : Act} {w w0 : World} {B : Nat} {l : List Res} {Q : Exit → Act → World → Prop} {ty : TypeId} {x y : Operand} {b : Nat} {n : Value} {d : List Value} {t0 t1 t2 t3 t4 t5 t6 t7 : Value}
theorem o_loadTl {K : Act → World → Prop} (ho : o.op = .load ty x) (hx : a.eval x = .pointer (some ⟨b, 4, none⟩)) (H : Own B w0 w l) (hm : Res.cells b [t0, t1, t2, t3, t4, t5, t6, t7] ∈ l)
  (ha : ∀ w, (isAgg ty).run P w = .ok true w) (hs : ∀ w, (sizeOf ty).run P w = .ok 2 w) (hk : K (a.put o.dst (.agg #[t4, t5])) w) : o.wp P a w K Q := o_loadN (r := .cells b [t0, t1, t2, t3, t4, t5, t6, t7]) (cs := [t4, t5]) ho hx H ⟨rfl, rfl⟩ hm ha hs hk
theorem q_loadSa {lf : List Res} {K : Act → Prop} (ho : o.op = .load ty x) (hx : a.eval x = .pointer (some ⟨b, 0, none⟩)) (hm : Res.cells b [t0, t1, t2, t3] ∈ lf)
  (ha : ∀ w, (isAgg ty).run P w = .ok true w) (hs : ∀ w, (sizeOf ty).run P w = .ok 2 w) (hk : K (a.put o.dst (.agg #[t0, t1]))) : o.quiet P a (Keeps B w0 lf) K := q_loadN (r := .cells b [t0, t1, t2, t3]) (cs := [t0, t1]) ho hx ⟨rfl, rfl⟩ hm ha hs hk
theorem o_loadSa {K : Act → World → Prop} (ho : o.op = .load ty x) (hx : a.eval x = .pointer (some ⟨b, 0, none⟩)) (H : Own B w0 w l) (hm : Res.cells b [t0, t1, t2, t3] ∈ l)
  (ha : ∀ w, (isAgg ty).run P w = .ok true w) (hs : ∀ w, (sizeOf ty).run P w = .ok 2 w) (hk : K (a.put o.dst (.agg #[t0, t1])) w) : o.wp P a w K Q := o_loadN (r := .cells b [t0, t1, t2, t3]) (cs := [t0, t1]) ho hx H ⟨rfl, rfl⟩ hm ha hs hk
theorem q_loadSb {lf : List Res} {K : Act → Prop} (ho : o.op = .load ty x) (hx : a.eval x = .pointer (some ⟨b, 2, none⟩)) (hm : Res.cells b [t0, t1, t2, t3] ∈ lf)
  (ha : ∀ w, (isAgg ty).run P w = .ok true w) (hs : ∀ w, (sizeOf ty).run P w = .ok 2 w) (hk : K (a.put o.dst (.agg #[t2, t3]))) : o.quiet P a (Keeps B w0 lf) K := q_loadN (r := .cells b [t0, t1, t2, t3]) (cs := [t2, t3]) ho hx ⟨rfl, rfl⟩ hm ha hs hk
theorem o_loadSb {K : Act → World → Prop} (ho : o.op = .load ty x) (hx : a.eval x = .pointer (some ⟨b, 2, none⟩)) (H : Own B w0 w l) (hm : Res.cells b [t0, t1, t2, t3] ∈ l)
  (ha : ∀ w, (isAgg ty).run P w = .ok true w) (hs : ∀ w, (sizeOf ty).run P w = .ok 2 w) (hk : K (a.put o.dst (.agg #[t2, t3])) w) : o.wp P a w K Q := o_loadN (r := .cells b [t0, t1, t2, t3]) (cs := [t2, t3]) ho hx H ⟨rfl, rfl⟩ hm ha hs hk
end
def leftsZ (a b : Tz) : Int := if a.hl = false ∨ b.hl = false then (if a.hl = b.hl then 0 else if b.hl = true then -1 else 1) else if lessB a.l b.l = true then -1 else if lessB b.l a.l = true then 1 else 0
set_option maxRecDepth 100000 in
set_option maxHeartbeats 8000000 in
theorem lefts_any (s t : Tz) (w : World) : Calls Tryz.prog 35 #[tzV s, tzV t] w fun e w' => e = .returned (.int .i64 (leftsZ s t)) ∧ Below w.heap.size w w' := by
 obtain ⟨st, sb, shl, shr, ⟨slx, sly⟩, ⟨srx, sry⟩⟩ := s
 obtain ⟨tt, tb, thl, thr, ⟨tlx, tly⟩, ⟨trx, try_⟩⟩ := t
 simp only [tzV]
 have H := Own.start w
 have h1 := fun w => geomLess_any slx sly tlx tly w
 have h2 := fun w => geomLess_any tlx tly slx sly w
 obtain ⟨v1, hv1⟩ : ∃ v, lessB ⟨slx, sly⟩ ⟨tlx, tly⟩ = v := ⟨_, rfl⟩
 obtain ⟨v2, hv2⟩ : ∃ v, lessB ⟨tlx, tly⟩ ⟨slx, sly⟩ = v := ⟨_, rfl⟩
 have hz : leftsZ ⟨st, sb, shl, shr, ⟨slx, sly⟩, ⟨srx, sry⟩⟩ ⟨tt, tb, thl, thr, ⟨tlx, tly⟩, ⟨trx, try_⟩⟩ = if shl = false ∨ thl = false then (if shl = thl then 0 else if thl = true then -1 else 1) else if v1 = true then -1 else if v2 = true then 1 else 0 := by
  unfold leftsZ; rw [← hv1, ← hv2]
 rw [hv1] at h1
 rw [hv2] at h2
 have HZ := Lib.hid hz
 clear hz hv1 hv2
 cases shl <;> cases thl
 ·go_enter Tryz.func35, Tryz.ntmps35
  have tk0 : True := trivial
  have tk1 : True := trivial
  go_wp2_with (first
   | go_big_skip
   | (guard_target = wpList _ _ _ (_ :: _) _ _; (first | (refine a15dc6b3 ?_) | (refine a9475ade ?_; intro b2; clear H; (try clear w2); intro w2 H; (first | (clear tk0; rename Nat => b1) | (clear tk1; rename Nat => b2))))))
  go_ret
  exact ⟨by rw [HZ.out]; rfl, H.below⟩
 ·go_enter Tryz.func35, Tryz.ntmps35
  have tk0 : True := trivial
  have tk1 : True := trivial
  go_wp2_with (first
   | go_big_skip
   | (guard_target = wpList _ _ _ (_ :: _) _ _; (first | (refine a15dc6b3 ?_) | (refine a9475ade ?_; intro b2; clear H; (try clear w2); intro w2 H; (first | (clear tk0; rename Nat => b1) | (clear tk1; rename Nat => b2))))))
  go_ret
  exact ⟨by rw [HZ.out]; rfl, H.below⟩
 ·go_enter Tryz.func35, Tryz.ntmps35
  have tk0 : True := trivial
  have tk1 : True := trivial
  go_wp2_with (guard_target = wpList _ _ _ (_ :: _) _ _; (first | (refine a15dc6b3 ?_) | (refine a9475ade ?_; intro b2; clear H; (try clear w2); intro w2 H; (first | (clear tk0; rename Nat => b1) | (clear tk1; rename Nat => b2)))))
  go_ret
  exact ⟨by rw [HZ.out]; rfl, H.below⟩
 ·cases v1
  ·cases v2
   ·go_enter Tryz.func35, Tryz.ntmps35
    have tk0 : True := trivial
    have tk1 : True := trivial
    go_wp2_with (first
     | (go_at_call 25; (with_reducible refine (h1 _).mono ?_); rintro e w3 ⟨rfl, hb⟩; replace H := H.ext hb; clear hb; dsimp only)
     | (go_at_call 25; (with_reducible refine (h2 _).mono ?_); rintro e w3 ⟨rfl, hb⟩; replace H := H.ext hb; clear hb; dsimp only)
     | (guard_target = wpList _ _ _ (_ :: _) _ _; (first | (refine trap1g2 ?_) | (refine a9475ade ?_; intro b2; clear H; (try clear w2); intro w2 H; (first | (clear tk0; rename Nat => b1) | (clear tk1; rename Nat => b2))))))
    go_ret
    exact ⟨by rw [HZ.out]; rfl, H.below⟩
   ·go_enter Tryz.func35, Tryz.ntmps35
    have tk0 : True := trivial
    have tk1 : True := trivial
    go_wp2_with (first
     | (go_at_call 25; (with_reducible refine (h1 _).mono ?_); rintro e w3 ⟨rfl, hb⟩; replace H := H.ext hb; clear hb; dsimp only)
     | (go_at_call 25; (with_reducible refine (h2 _).mono ?_); rintro e w3 ⟨rfl, hb⟩; replace H := H.ext hb; clear hb; dsimp only)
     | (guard_target = wpList _ _ _ (_ :: _) _ _; (first | (refine trap1g2 ?_) | (refine a9475ade ?_; intro b2; clear H; (try clear w2); intro w2 H; (first | (clear tk0; rename Nat => b1) | (clear tk1; rename Nat => b2))))))
    go_ret
    exact ⟨by rw [HZ.out]; rfl, H.below⟩
  ·go_enter Tryz.func35, Tryz.ntmps35
   have tk0 : True := trivial
   have tk1 : True := trivial
   go_wp2_with (first
    | (go_at_call 25; (with_reducible refine (h1 _).mono ?_); rintro e w3 ⟨rfl, hb⟩; replace H := H.ext hb; clear hb; dsimp only)
    | (guard_target = wpList _ _ _ (_ :: _) _ _; (first | (refine trap1g2 ?_) | (refine a9475ade ?_; intro b2; clear H; (try clear w2); intro w2 H; (first | (clear tk0; rename Nat => b1) | (clear tk1; rename Nat => b2))))))
   go_ret
   exact ⟨by rw [HZ.out]; rfl, H.below⟩
def sideZ (s t : Sg) : Int := if lessB s.a t.a = true then orZ [turnB s.a s.b t.a, turnB s.a s.b t.b] else orZ [- turnB t.a t.b s.a, - turnB t.a t.b s.b, turnB s.a s.b t.b]
theorem turnB_pm (a b c : Pt) : -1 ≤ turnB a b c ∧ turnB a b c ≤ 1 := by
 unfold turnB
 split
 ·exact turn_pm a b c
 ·omega
theorem cmpOr2 {B b : Nat} {w0 w : World} {l : List Res} {u v : Int} (H : Own B w0 w (.cells b [.int .i64 u, .int .i64 v] :: l)) : Calls Tryz.prog 34 #[.slice (some ⟨b, 0, none⟩) 2 2] w fun e w' => e = .returned (.int .i64 (orZ [u, v])) ∧ Below w.heap.size w w' :=
 cmpOr_any [u, v] _ 2 2 (fun _ => False) w rfl (H.giveCells m0 (fun _ h => h.elim) 0 rfl) (by omega)
theorem cmpOr3 {B b : Nat} {w0 w : World} {l : List Res} {u v x : Int} (H : Own B w0 w (.cells b [.int .i64 u, .int .i64 v, .int .i64 x] :: l)) : Calls Tryz.prog 34 #[.slice (some ⟨b, 0, none⟩) 3 3] w fun e w' => e = .returned (.int .i64 (orZ [u, v, x])) ∧ Below w.heap.size w w' :=
 cmpOr_any [u, v, x] _ 3 3 (fun _ => False) w rfl (H.giveCells m0 (fun _ h => h.elim) 0 rfl) (by omega)
set_option maxRecDepth 100000 in
set_option maxHeartbeats 8000000 in
theorem side_any (s t : Sg) (w : World) : Calls Tryz.prog 57 #[sgV s, sgV t] w fun e w' => e = .returned (.int .i64 (sideZ s t)) ∧ Below w.heap.size w w' := by
 obtain ⟨⟨ax, ay⟩, ⟨bx, b_y⟩⟩ := s
 obtain ⟨⟨cx, cy⟩, ⟨dx, dy⟩⟩ := t
 simp only [sgV]
 have H := Own.start w
 have h1 := fun w => geomLess_any ax ay cx cy w
 obtain ⟨v1, hv1⟩ : ∃ v, lessB ⟨ax, ay⟩ ⟨cx, cy⟩ = v := ⟨_, rfl⟩
 have p1 := turnB_pm ⟨cx, cy⟩ ⟨dx, dy⟩ ⟨ax, ay⟩
 have p2 := turnB_pm ⟨cx, cy⟩ ⟨dx, dy⟩ ⟨bx, b_y⟩
 have t1 := fun w => geomTurn_any ax ay bx b_y cx cy w
 have t2 := fun w => geomTurn_any ax ay bx b_y dx dy w
 have t3 := fun w => geomTurn_any cx cy dx dy ax ay w
 have t4 := fun w => geomTurn_any cx cy dx dy bx b_y w
 have hz : sideZ ⟨⟨ax, ay⟩, ⟨bx, b_y⟩⟩ ⟨⟨cx, cy⟩, ⟨dx, dy⟩⟩ = if v1 = true then orZ [turnB ⟨ax, ay⟩ ⟨bx, b_y⟩ ⟨cx, cy⟩, turnB ⟨ax, ay⟩ ⟨bx, b_y⟩ ⟨dx, dy⟩] else orZ [- turnB ⟨cx, cy⟩ ⟨dx, dy⟩ ⟨ax, ay⟩, - turnB ⟨cx, cy⟩ ⟨dx, dy⟩ ⟨bx, b_y⟩, turnB ⟨ax, ay⟩ ⟨bx, b_y⟩ ⟨dx, dy⟩] := by
  unfold sideZ; rw [← hv1]
 rw [hv1] at h1
 generalize turnB ⟨ax, ay⟩ ⟨bx, b_y⟩ ⟨cx, cy⟩ = u1 at *
 generalize turnB ⟨ax, ay⟩ ⟨bx, b_y⟩ ⟨dx, dy⟩ = u2 at *
 generalize turnB ⟨cx, cy⟩ ⟨dx, dy⟩ ⟨ax, ay⟩ = u3 at *
 generalize turnB ⟨cx, cy⟩ ⟨dx, dy⟩ ⟨bx, b_y⟩ = u4 at *
 have e1 : IntKind.i64.wrap (-u3) = -u3 := IntWalk.i64_in _ (by omega)
 have e2 : IntKind.i64.wrap (-u4) = -u4 := IntWalk.i64_in _ (by omega)
 have HZ := Lib.hid hz
 clear hz hv1 p1 p2
 cases v1
 ·go_enter Tryz.func57, Tryz.ntmps57
  have tk0 : True := trivial
  have tk1 : True := trivial
  go_wp2_with (first
   | (go_at_call 25; (with_reducible refine (h1 _).mono ?_); rintro e w3 ⟨rfl, hb⟩; replace H := H.ext hb; clear hb; dsimp only; (skip))
   | (go_at_call 34; (with_reducible refine (cmpOr3 H).mono ?_); rintro e w3 ⟨rfl, hb⟩; replace H := H.ext hb; clear hb; dsimp only; (refine a8c34bfe ?_; clear hK K))
   | (guard_target = Code.wp _ (Code.region 3 _ true) _ _ _; refine trap1r2 ?_; clear H; (try clear w2); intro w2 H)
   | ((first | guard_target = wpList _ _ _ (_ :: _) _ _ | guard_target = wpTreeC _ _ _ _ _ _ _); (first | (refine trap1g5 ?_) | (refine aeebfb80 ?_; intro b2; clear H; (try clear w2); intro w2 H; (first | (clear tk0; rename Nat => b1) | (clear tk1; rename Nat => b2) | (skip))) | (guard_target = wpTreeC _ _ _ (Tr.q _ _) _ _ _; (with_reducible refine treeC_call (v := ?_) (o := ?_) (aK H) ?_ ?_ (fun w3 H K hK => ?_) ?_); rotate_left 2; exact rfl; exact rfl; (focus (simp only [List.getElem_toArray, List.getElem_cons_succ, List.getElem_cons_zero]; (go_big_op; (first | (go_at_call 26; (with_reducible refine (t2 _).mono ?_); rintro e w3 ⟨rfl, hb⟩; dsimp only; exact aE) | (go_at_call 26; (with_reducible refine (t3 _).mono ?_); rintro e w3 ⟨rfl, hb⟩; dsimp only; exact aE) | (go_at_call 26; (with_reducible refine (t4 _).mono ?_); rintro e w3 ⟨rfl, hb⟩; dsimp only; exact aE))))); refine a75ac28e ?_) | (guard_target = wpTreeC _ _ _ Tr.nil _ _ _; refine treeC_nil H ?_; clear H; (try clear w2); intro w2 H) | (refine abe83802 ?_; clear H; (try clear w2); intro w2 H; intro K hK))))
  go_ret
  exact ⟨by rw [HZ.out]; rfl, H.below⟩
 ·go_enter Tryz.func57, Tryz.ntmps57
  have tk0 : True := trivial
  have tk1 : True := trivial
  go_wp2_with (first
   | (go_at_call 25; (with_reducible refine (h1 _).mono ?_); rintro e w3 ⟨rfl, hb⟩; replace H := H.ext hb; clear hb; dsimp only; (skip))
   | (go_at_call 34; (with_reducible refine (cmpOr2 H).mono ?_); rintro e w3 ⟨rfl, hb⟩; replace H := H.ext hb; clear hb; dsimp only; (refine a8c34bfe ?_; clear hK K))
   | (guard_target = Code.wp _ (Code.region 2 _ true) _ _ _; refine trap1r1 ?_; clear H; (try clear w2); intro w2 H)
   | ((first | guard_target = wpList _ _ _ (_ :: _) _ _ | guard_target = wpTreeC _ _ _ _ _ _ _); (first | (refine trap1g5 ?_) | (refine aeebfb80 ?_; intro b2; clear H; (try clear w2); intro w2 H; (first | (clear tk0; rename Nat => b1) | (clear tk1; rename Nat => b2) | (skip))) | (guard_target = wpTreeC _ _ _ (Tr.q _ _) _ _ _; (with_reducible refine treeC_call (v := ?_) (o := ?_) (aK H) ?_ ?_ (fun w3 H K hK => ?_) ?_); rotate_left 2; exact rfl; exact rfl; (focus (simp only [List.getElem_toArray, List.getElem_cons_succ, List.getElem_cons_zero]; (go_big_op; (first | (go_at_call 26; (with_reducible refine (t1 _).mono ?_); rintro e w3 ⟨rfl, hb⟩; dsimp only; exact aE) | (go_at_call 26; (with_reducible refine (t2 _).mono ?_); rintro e w3 ⟨rfl, hb⟩; dsimp only; exact aE))))); refine a75ac28e ?_) | (guard_target = wpTreeC _ _ _ Tr.nil _ _ _; refine treeC_nil H ?_; clear H; (try clear w2); intro w2 H) | (refine abe83802 ?_; clear H; (try clear w2); intro w2 H; intro K hK))))
  go_ret
  exact ⟨by rw [HZ.out]; rfl, H.below⟩
def segZ (vs : List Vt) (x y : Int) : Sg := if lessB (rpt vs y) (rpt vs x) = true then ⟨rpt vs y, rpt vs x⟩ else ⟨rpt vs x, rpt vs y⟩
theorem vt_some {vs : List Vt} {id : Int} (h : (vs.find? fun v => v.id == id).isSome = true) : ∃ i x y, (vs.find? fun v => v.id == id) = some ⟨i, ⟨x, y⟩⟩ ∧ rpt vs id = ⟨x, y⟩ := by
 obtain ⟨⟨i, ⟨x, y⟩⟩, hv⟩ := Option.isSome_iff_exists.1 h
 exact ⟨i, x, y, hv, rpt_some hv⟩
set_option maxRecDepth 100000 in
set_option maxHeartbeats 8000000 in
theorem segOf_any (vs : List Vt) (A A2 : Option Addr) (n m : Nat) (c c2 : Nat) (F : Nat → Prop) (i x y : Int) (w : World) (hn : n = vs.length) (hs : Sl F w A (vR vs)) (hl : n ≤ 1000000) (hx : (vs.find? fun v => v.id == x).isSome = true) (hy : (vs.find? fun v => v.id == y).isSome = true) :
  Calls Tryz.prog 17 #[.agg #[.slice A n c, .slice A2 m c2], v3 i x y] w fun e w' => e = .returned (sgV (segZ vs x y)) ∧ Below w.heap.size w w' := by
 obtain ⟨b0, o0, H, f0⟩ := (Own.start w).addSl (hs.ro (by rfl))
 clear hs
 have h1 := fun F w h => vertex_any vs A A2 n m c c2 F x w hn h hl
 have h2 := fun F w h => vertex_any vs A A2 n m c c2 F y w hn h hl
 obtain ⟨i1, ax, ay, e1, r1⟩ := vt_some hx
 obtain ⟨i2, bx, b_y, e2, r2⟩ := vt_some hy
 have hz : segZ vs x y = if lessB ⟨bx, b_y⟩ ⟨ax, ay⟩ = true then ⟨⟨bx, b_y⟩, ⟨ax, ay⟩⟩ else ⟨⟨ax, ay⟩, ⟨bx, b_y⟩⟩ := by unfold segZ; rw [r1, r2]
 rw [e1] at h1
 rw [e2] at h2
 simp only [vtV, Option.isSome_some] at h1 h2
 have h3 := fun w => geomLess_any bx b_y ax ay w
 rw [hz]
 clear hx hy hn hz e1 e2 r1 r2
 generalize lessB ⟨bx, b_y⟩ ⟨ax, ay⟩ = v at h3 ⊢
 cases v
 ·simp only [Bool.false_eq_true, if_false]
  go_enter Tryz.func17, Tryz.ntmps17
  have tk0 : True := trivial
  have tk1 : True := trivial
  have tk2 : True := trivial
  have tk3 : True := trivial
  have tk4 : True := trivial
  go_wp2_with (first
   | (go_at_call 43; (with_reducible refine (h1 _ _ (aD f0)).mono ?_); rintro e w3 ⟨rfl, hb⟩; replace H := H.ext hb; clear hb; dsimp only)
   | (go_at_call 43; (with_reducible refine (h2 _ _ (aD f0)).mono ?_); rintro e w3 ⟨rfl, hb⟩; replace H := H.ext hb; clear hb; dsimp only)
   | (go_at_call 25; (with_reducible refine (h3 _).mono ?_); rintro e w3 ⟨rfl, hb⟩; replace H := H.ext hb; clear hb; dsimp only)
   | (guard_target = wpList _ _ _ (_ :: _) _ _; (first | (refine a44c7a0d ?_) | (refine a181aa22 ?_; clear H; (try clear w2); intro w2 H) | (refine a9475ade ?_; intro b2; clear H; (try clear w2); intro w2 H; (first | (clear tk0; rename Nat => b1) | (clear tk1; rename Nat => b2) | (clear tk2; rename Nat => b3) | (clear tk3; rename Nat => b4) | (clear tk4; rename Nat => b5))))))
  have hr := H.loadVarN (P := Tryz.prog) (ty := 58) (b := b3) (by exact m2) (by simp) (by simp)
  exact bodyPost_ret (v := sgV ⟨⟨ax, ay⟩, ⟨bx, b_y⟩⟩) (by simp [results, Tryz.results17, asAddr, hr]) rfl ⟨rfl, H.below⟩
 ·simp only [if_true]
  go_enter Tryz.func17, Tryz.ntmps17
  have tk0 : True := trivial
  have tk1 : True := trivial
  have tk2 : True := trivial
  have tk3 : True := trivial
  have tk4 : True := trivial
  go_wp2_with (first
   | (go_at_call 43; (with_reducible refine (h1 _ _ (aD f0)).mono ?_); rintro e w3 ⟨rfl, hb⟩; replace H := H.ext hb; clear hb; dsimp only)
   | (go_at_call 43; (with_reducible refine (h2 _ _ (aD f0)).mono ?_); rintro e w3 ⟨rfl, hb⟩; replace H := H.ext hb; clear hb; dsimp only)
   | (go_at_call 25; (with_reducible refine (h3 _).mono ?_); rintro e w3 ⟨rfl, hb⟩; replace H := H.ext hb; clear hb; dsimp only)
   | (guard_target = wpList _ _ _ (_ :: _) _ _; (first | (refine a44c7a0d ?_) | (refine a181aa22 ?_; clear H; (try clear w2); intro w2 H) | (refine a9475ade ?_; intro b2; clear H; (try clear w2); intro w2 H; (first | (clear tk0; rename Nat => b1) | (clear tk1; rename Nat => b2) | (clear tk2; rename Nat => b3) | (clear tk3; rename Nat => b4) | (clear tk4; rename Nat => b5))))))
  have hr := H.loadVarN (P := Tryz.prog) (ty := 58) (b := b3) (by exact m2) (by simp) (by simp)
  exact bodyPost_ret (v := sgV ⟨⟨bx, b_y⟩, ⟨ax, ay⟩⟩) (by simp [results, Tryz.results17, asAddr, hr]) rfl ⟨rfl, H.below⟩
end Go.Proofs.YtlhmjhildlnokaaGreat
namespace Go.Proofs.YtlhmjhildlnokaaGreat
set_option linter.unusedVariables false
set_option linter.unusedSectionVars false
open Go.RowKit Go.Shelf Go.Sort Go.Lib
theorem below_grow {w w' : World} (h : Below w.heap.size w w') : ∃ q os, w' = Sort.grow (w.drewN q) os := by
 refine ⟨w'.drawn - w.drawn, w'.heap.extract w.heap.size w'.heap.size, ?_⟩
 have hd := h.drawn
 have h1 := h.os
 have h2 := h.tape
 have h3 := h.output
 have h4 := h.size
 have h5 := h.block
 obtain ⟨heap, tape, drawn, os, output⟩ := w
 obtain ⟨heap', tape', drawn', os', output'⟩ := w'
 simp only at hd h1 h2 h3 h4 h5
 subst h1 h2 h3
 unfold Sort.grow World.drewN
 have hh : heap' = heap ++ heap'.extract heap.size heap'.size := by
  apply Array.ext_getElem?
  intro i
  rw [Array.getElem?_append]
  split
  ·rename_i hi; exact h5 i hi
  ·rename_i hi
   rw [Array.getElem?_extract]
   split
   ·rw [show heap.size + (i - heap.size) = i by omega]
   ·rename_i hi2
    rw [Array.getElem?_eq_none (by omega)]
 have hdr : drawn + (drawn' - drawn) = drawn' := by omega
 simp only [hdr, ← hh]
section
variable {α : Type} [Inhabited α] {enc : α → List Value} {k : Nat}
theorem flat_get (hk : ∀ x, (enc x).length = k) (hk0 : 0 < k) : ∀ (xs : List α) (t : Nat), (xs.flatMap enc)[t]? = (xs[t / k]?).bind fun x => (enc x)[t % k]?
 | [], t => by simp
 | a :: l, t => by
  rw [List.flatMap_cons, List.getElem?_append, hk]
  split
  ·rename_i h
   rw [Nat.div_eq_of_lt h, Nat.mod_eq_of_lt h]; simp
  ·rename_i h
   obtain ⟨u, rfl⟩ : ∃ u, t = u + k := ⟨t - k, by omega⟩
   rw [Nat.add_sub_cancel, flat_get hk hk0 l u, Nat.add_div_right _ hk0, Nat.add_mod_right]; rfl
theorem flatK_list (hk : ∀ x, (enc x).length = k) (hk0 : 0 < k) (xs : List α) : (flatK enc k xs.toArray).toList = xs.flatMap enc := by
 apply List.ext_getElem?
 intro t
 rw [flat_get hk hk0, Array.getElem?_toList]
 unfold flatK
 rw [Array.getElem?_map]
 by_cases ht : t < xs.toArray.size * k
 ·have hq : t / k < xs.length := by
   have : t < k * xs.length := by rw [Nat.mul_comm]; simpa using ht
   exact Nat.div_lt_of_lt_mul this
  have hm : t % k < k := Nat.mod_lt _ hk0
  have e1 : (Array.range (xs.toArray.size * k))[t]? = some t := by rw [Array.getElem?_eq_getElem (by simpa using ht)]; simp
  rw [e1, List.getElem?_eq_getElem hq]
  simp only [Option.map_some, Option.bind_some]
  have e2 : xs.toArray[t / k]! = xs[t / k] := by simp [hq]
  rw [e2, List.getElem?_eq_getElem (by rw [hk]; exact hm)]
  congr 1
  exact getElem!_pos _ _ (by rw [hk]; exact hm)
 ·have e1 : (Array.range (xs.toArray.size * k))[t]? = none := Array.getElem?_eq_none (by simp; simpa using ht)
  have hq : xs.length ≤ t / k := by
   have : xs.length * k ≤ t := by have := ht; simp at this; omega
   exact (Nat.le_div_iff_mul_le hk0).2 this
  rw [e1, List.getElem?_eq_none hq]; rfl
end
theorem flatMap_length {α : Type} {enc : α → List Value} {k : Nat} (hk : ∀ x, (enc x).length = k) : ∀ xs : List α, (xs.flatMap enc).length = xs.length * k
 | [] => by simp
 | a :: l => by rw [List.flatMap_cons, List.length_append, hk, flatMap_length hk l, List.length_cons, Nat.add_mul, Nat.one_mul, Nat.add_comm]
theorem take_put (cur F : Array Value) (h : F.size ≤ cur.size) : (Sort.putCells id 0 F cur).toList.take F.size = F.toList := by
 apply List.ext_getElem?
 intro j
 by_cases hj : j < F.size
 ·rw [List.getElem?_take_of_lt hj, Array.getElem?_toList, Array.getElem?_toList]
  simp [Sort.putCells, hj, show j < cur.size by omega]
 ·rw [List.getElem?_take_eq_none (by omega), List.getElem?_eq_none (by simp; omega)]
section
variable {α : Type} [Inhabited α] {P : Program} {ρ : Ren} {B : Nat} {w0 w : World} {l : List Res} {enc : α → List Value} {k n b cap : Nat} {e : TypeId} {xs : List α}
theorem sortW_heap {W : World} {m : Nat} {dk : Array α} {os : Array Obj} (hW : W = sortWorldK enc k w b 0 m dk os) : (∀ j, j < w.heap.size → j ≠ b → W.heap[j]? = w.heap[j]?) ∧ w.heap.size ≤ W.heap.size ∧ W.os = w.os ∧ W.tape = w.tape ∧ W.output = w.output ∧ w.drawn ≤ W.drawn := by
 subst hW
 unfold sortWorldK putRowK
 refine ⟨fun j hj hne => ?_, by simp [Sort.grow, Sort.putRow, Sort.mapBlock, Sort.ahead], rfl, rfl, rfl, Nat.le_add_right _ _⟩
 rw [Sort.heap_grow_old _ _ (by simpa using hj)]
 have : b ≠ j := fun e => hne e.symm
 simp [Sort.putRow, Sort.mapBlock, Sort.ahead, Array.getElem?_modify, this]
theorem sortK_any (L : SlLaysF0.n6 P ρ) (hk0 : 0 < k) (aE : ∀ w, (isAgg (ρ.t 24)).run P w = .ok true w) (zE : ∀ w, (Go.sizeOf (ρ.t 24)).run P w = .ok k w) (hk : ∀ x, (enc x).length = k) (h1 : ∀ x, ∀ v ∈ enc x, v.oneCell' = true) (cf : α → α → Int) (hO : Sort.SWO (ltOf cf)) (g : Nat) (cb : Array Value)
  (eg : ∀ args w, (callFunc g args).run P w = .ok (.enter g args) w) (hn : n = xs.length) (hl : n ≤ 1000000) (H : Own B w0 w (.grow e k (.slice (some ⟨b, 0, none⟩) n cap) n (xs.flatMap enc) :: l))
  (hcmp : ∀ W, (∀ r ∈ l, r.holds W ∧ ∀ j, r.foot j → j < W.heap.size) → ∀ x y, Calls P g (#[.agg (enc x).toArray, .agg (enc y).toArray] ++ cb) W fun r W' => r = .returned (.int .i64 (cf x y)) ∧ Below W.heap.size W W') :
  Calls P (ρ.f 6) #[.slice (some ⟨b, 0, none⟩) n cap, .func (.func g) #[] cb] w fun r w' => r = .returned (.tuple #[]) ∧ ∃ ys : List α, ys.Perm xs ∧ ys.Pairwise (fun x y => ltOf cf y x = false) ∧ Own B w0 w' (.grow e k (.slice (some ⟨b, 0, none⟩) n cap) n (ys.flatMap enc) :: l) := by
 subst hn
 have h := H.holds _ m0
 have hlt := H.lt _ m0 b rfl
 have hap := (List.pairwise_cons.1 H.apart).1
 rcases h.2 with ⟨h0, _⟩ | ⟨gg, cap', cur, hv, hbg, hg, hnc, hcm, hcs, htake⟩
 ·cases h0
 injection hv with e1 e2 e3
 injection e1 with e1
 injection e1 with e1
 subst e1 e3
 have hfl := flatK_list hk hk0 xs
 have hfs : (flatK enc k xs.toArray).size = xs.length * k := by simp
 have hH : HoldsK enc k w b 0 xs.toArray := by
  intro j hj
  rw [hfs] at hj
  refine ⟨?_, by simp [World.frozen?, hg]⟩
  have h3 : (cur.toList.take (xs.length * k))[j]? = (xs.flatMap enc)[j]? := by rw [htake]
  rw [List.getElem?_take_of_lt hj, ← hfl, Array.getElem?_toList, Array.getElem?_toList] at h3
  simp only [World.cell?, hg, Nat.zero_add, Option.isSome_none, Bool.false_eq_true, if_false, id]
  rw [h3, Array.getElem?_eq_getElem (by omega), getElem!_pos _ _ (by omega)]
 have hC : CmpLays P g cb enc k cf b 0 xs.toArray.size w := by
  intro m os dk hs x y
  generalize hW : sortWorldK enc k w b 0 m dk os = W
  have hh := sortW_heap hW.symm
  refine (hcmp W (fun r hr => ?_) x y).mono fun r W' hr => ⟨hr.1, below_grow hr.2⟩
  have hne : ∀ j, r.foot j → j < w.heap.size ∧ j ≠ b := fun j hj => ⟨(H.lt r (List.mem_cons_of_mem _ hr) j hj).1, fun e => by
   rcases hap r hr with h5 | h5
   ·cases h5.1
   ·exact h5 b rfl (e ▸ hj)⟩
  exact ⟨Res.holds_stable (H.holds r (List.mem_cons_of_mem _ hr)) fun j hj => hh.1 j (hne j hj).1 (hne j hj).2, fun j hj => Nat.lt_of_lt_of_le (hne j hj).1 hh.2.1⟩
 refine (AnyQ.slices_SortFunc (P := P) (ρ := ρ) L k aE zE enc hk h1 cf hO g cb b 0 cap xs.toArray w eg hC hH hlt.1 (by simp; omega)).mono ?_
 rintro r w' ⟨hr, d', m, os, hp, hs, hw⟩
 refine ⟨hr, d'.toList, ?_, ?_, ?_⟩
 ·have := hp.2.2
  have hz := hp.1
  simp only [List.size_toArray] at this hz
  rw [Array.extract_eq_self_of_le (by omega), Array.extract_eq_self_of_le (by simp)] at this
  simpa using this
 ·rw [List.pairwise_iff_getElem]
  intro i j hi hj hij
  have hz := hp.1
  simp only [List.size_toArray] at hz
  have hi' : i < d'.size := by simpa using hi
  have hj' : j < d'.size := by simpa using hj
  have := hs i j (Nat.zero_le _) hij (by simp; omega)
  rw [getElem!_pos d' j hj', getElem!_pos d' i hi'] at this
  simpa using this
 ·have hh := sortW_heap hw
  have hz : d'.toList.length = xs.length := by have := hp.1; simpa using this
  have hfl2 : (flatK enc k d').toList = d'.toList.flatMap enc := by
   have := flatK_list hk hk0 d'.toList
   simpa using this
  have hg' : w'.heap[b]? = some (.cells (Sort.putCells id 0 (flatK enc k d') cur) e (0, 0)) := by
   subst hw
   unfold sortWorldK putRowK
   rw [Sort.heap_grow_old _ _ (by simpa using hlt.1)]
   simp [Sort.putRow, Sort.mapBlock, Sort.ahead, Array.getElem?_modify, hg, Sort.onCells]
  have hsz : (flatK enc k d').size = xs.length * k := by rw [size_flatK]; have := hp.1; simp at this; rw [this]
  have hle : xs.length * k ≤ cur.size := by rw [hcs]; exact Nat.mul_le_mul_right _ hnc
  refine H.change r0 rfl rfl (.mk6 hh.2.2.1 hh.2.2.2.1 hh.2.2.2.2.1 hh.2.1 (fun j hj => hh.1 j (Nat.lt_of_lt_of_le hj H.base) (fun e => by have := hlt.2 rfl; omega)) hh.2.2.2.2.2) (fun j hj hne => hh.1 j hj (fun e => hne (by rw [e]; rfl)))
   ⟨by rw [flatMap_length hk, hz], .inr ⟨b, cap, _, rfl, Nat.zero_le _, hg', hnc, hcm, by simp [Sort.putCells, hcs], ?_⟩⟩ (fun j hj => ?_) (fun j hj => .inl hj)
  ·rw [← hfl2, ← hsz]
   exact take_put _ _ (by omega)
  ·obtain rfl : b = j := by injection hj
   exact Nat.lt_of_lt_of_le hlt.1 hh.2.1
end
end Go.Proofs.YtlhmjhildlnokaaGreat
namespace Go.Proofs.YtlhmjhildlnokaaGreat
set_option linter.unusedVariables false
set_option linter.unusedSectionVars false
set_option linter.unusedSimpArgs false
open Go.RowKit Go.Shelf Go.Sort Go.Lib
section
variable {α : Type} [Inhabited α] {P : Program} {ρ : Ren} {B : Nat} {w0 w : World} {l : List Res} {enc : α → Value} {n b cap : Nat} {e : TypeId} {xs : List α}
theorem sort1W_heap {W : World} {m : Nat} {dk : Array α} {os : Array Obj} (hW : W = sortWorld enc w b 0 m dk os) : (∀ j, j < w.heap.size → j ≠ b → W.heap[j]? = w.heap[j]?) ∧ w.heap.size ≤ W.heap.size ∧ W.os = w.os ∧ W.tape = w.tape ∧ W.output = w.output ∧ w.drawn ≤ W.drawn := by
 subst hW
 unfold sortWorld
 refine ⟨fun j hj hne => ?_, by simp [Sort.grow, Sort.putRow, Sort.mapBlock, Sort.ahead], rfl, rfl, rfl, Nat.le_add_right _ _⟩
 rw [Sort.heap_grow_old _ _ (by simpa using hj)]
 have : b ≠ j := fun e => hne e.symm
 simp [Sort.putRow, Sort.mapBlock, Sort.ahead, Array.getElem?_modify, this]
theorem sort1_any (L : SlLaysF.n6 P ρ) (h1 : OneCell enc) (cf : α → α → Int) (hO : Sort.SWO (ltOf cf)) (g : Nat) (cb : Array Value)
  (eg : ∀ args w, (callFunc g args).run P w = .ok (.enter g args) w) (hn : n = xs.length) (hl : n ≤ 1000000) (H : Own B w0 w (.grow e 1 (.slice (some ⟨b, 0, none⟩) n cap) n (xs.map enc) :: l))
  (hcmp : ∀ W, (∀ r ∈ l, r.holds W ∧ ∀ j, r.foot j → j < W.heap.size) → ∀ x y, Calls P g (#[enc x, enc y] ++ cb) W fun r W' => r = .returned (.int .i64 (cf x y)) ∧ Below W.heap.size W W') :
  Calls P (ρ.f 6) #[.slice (some ⟨b, 0, none⟩) n cap, .func (.func g) #[] cb] w fun r w' => r = .returned (.tuple #[]) ∧ ∃ ys : List α, ys.Perm xs ∧ ys.Pairwise (fun x y => ltOf cf y x = false) ∧ Own B w0 w' (.grow e 1 (.slice (some ⟨b, 0, none⟩) n cap) n (ys.map enc) :: l) := by
 subst hn
 have h := H.holds _ m0
 have hlt := H.lt _ m0 b rfl
 have hap := (List.pairwise_cons.1 H.apart).1
 rcases h.2 with ⟨h0, _⟩ | ⟨gg, cap', cur, hv, hbg, hg, hnc, hcm, hcs, htake⟩
 ·cases h0
 injection hv with e1 e2 e3
 injection e1 with e1
 injection e1 with e1
 subst e1 e3
 simp only [Nat.mul_one] at htake hcs
 have hH : Holds enc w b 0 xs.toArray := by
  intro j hj
  simp only [List.size_toArray] at hj
  refine ⟨?_, by simp [World.frozen?, hg]⟩
  have h3 : (cur.toList.take xs.length)[j]? = (xs.map enc)[j]? := by rw [htake]
  rw [List.getElem?_take_of_lt hj, Array.getElem?_toList, List.getElem?_map, List.getElem?_eq_getElem hj] at h3
  simp only [World.cell?, hg, Nat.zero_add, Option.isSome_none, Bool.false_eq_true, if_false, id]
  rw [h3]
  simp [hj]
 have hC : CmpLays1 P g cb enc cf b 0 xs.toArray.size w := by
  intro m os dk hs x y
  generalize hW : sortWorld enc w b 0 m dk os = W
  have hh := sort1W_heap hW.symm
  refine (hcmp W (fun r hr => ?_) x y).mono fun r W' hr => ⟨hr.1, below_grow hr.2⟩
  have hne : ∀ j, r.foot j → j < w.heap.size ∧ j ≠ b := fun j hj => ⟨(H.lt r (List.mem_cons_of_mem _ hr) j hj).1, fun e => by
   rcases hap r hr with h5 | h5
   ·cases h5.1
   ·exact h5 b rfl (e ▸ hj)⟩
  exact ⟨Res.holds_stable (H.holds r (List.mem_cons_of_mem _ hr)) fun j hj => hh.1 j (hne j hj).1 (hne j hj).2, fun j hj => Nat.lt_of_lt_of_le (hne j hj).1 hh.2.1⟩
 refine (Any.slices_SortFunc (P := P) (ρ := ρ) L enc h1 cf hO g cb b 0 cap xs.toArray w eg hC hH hlt.1 (by simp; omega)).mono ?_
 rintro r w' ⟨hr, d', m, os, hp, hs, hw⟩
 refine ⟨hr, d'.toList, ?_, ?_, ?_⟩
 ·have := hp.2.2
  have hz := hp.1
  simp only [List.size_toArray] at this hz
  rw [Array.extract_eq_self_of_le (by omega), Array.extract_eq_self_of_le (by simp)] at this
  simpa using this
 ·rw [List.pairwise_iff_getElem]
  intro i j hi hj hij
  have hz := hp.1
  simp only [List.size_toArray] at hz
  have hi' : i < d'.size := by simpa using hi
  have hj' : j < d'.size := by simpa using hj
  have := hs i j (Nat.zero_le _) hij (by simp; omega)
  rw [getElem!_pos d' j hj', getElem!_pos d' i hi'] at this
  simpa using this
 ·have hh := sort1W_heap hw
  have hz : d'.toList.length = xs.length := by have := hp.1; simpa using this
  have hle : xs.length ≤ cur.size := by rw [hcs]; exact hnc
  have hg' : w'.heap[b]? = some (.cells (Sort.putCells enc 0 d' cur) e (0, 0)) := by
   subst hw
   unfold sortWorld
   rw [Sort.heap_grow_old _ _ (by simpa using hlt.1)]
   simp [Sort.putRow, Sort.mapBlock, Sort.ahead, Array.getElem?_modify, hg, Sort.onCells]
  refine H.change r0 rfl rfl (.mk6 hh.2.2.1 hh.2.2.2.1 hh.2.2.2.2.1 hh.2.1 (fun j hj => hh.1 j (Nat.lt_of_lt_of_le hj H.base) (fun e => by have := hlt.2 rfl; omega)) hh.2.2.2.2.2) (fun j hj hne => hh.1 j hj (fun e => hne (by rw [e]; rfl)))
   ⟨by rw [List.length_map, hz, Nat.mul_one], .inr ⟨b, cap, _, rfl, Nat.zero_le _, hg', hnc, hcm, by simp [Sort.putCells, hcs], ?_⟩⟩ (fun j hj => ?_) (fun j hj => .inl hj)
  ·rw [Nat.mul_one]
   apply List.ext_getElem?
   intro j
   by_cases hj : j < xs.length
   ·have hj' : j < d'.size := by simpa [← hz] using hj
    rw [List.getElem?_take_of_lt hj, List.getElem?_map, Array.getElem?_toList]
    simp [Sort.putCells, hj', show j < cur.size by omega]
   ·rw [List.getElem?_take_eq_none (by omega), List.getElem?_eq_none (by rw [List.length_map, hz]; omega)]
  ·obtain rfl : b = j := by injection hj
   exact Nat.lt_of_lt_of_le hlt.1 hh.2.1
end
end Go.Proofs.YtlhmjhildlnokaaGreat
