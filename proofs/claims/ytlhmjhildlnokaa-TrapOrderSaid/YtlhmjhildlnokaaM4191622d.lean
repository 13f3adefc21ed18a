/-
  The walk of the index's Add.
-/
import Derived.Test.YtlhmjhildlnokaaM38b8c3cb
import Derived.Test.YtlhmjhildlnokaaMf7e90279
import Derived.Test.YtlhmjhildlnokaaOwn7
import Derived.Test.YtlhmjhildlnokaaBase
import Derived.Test.YtlhmjhildlnokaaPlan0
import Derived.ChangeArms
namespace Go.Proofs.Ytlhmjhildlnokaa
set_option linter.unusedVariables false
set_option linter.unusedSimpArgs false
open Go.RowKit Go.Sort Go.Shelf

/-- An edge that isn't the one asked for: is its line there? -/
def hasE (vs : List Vt) (S : List (Int × Sg)) (edge : Int) (e : Eg) : Bool := e.id == edge || decide (getA S e.id = some (segZ vs e.a e.b))
def othersN (es : List Eg) (edge : Int) : Nat := es.countP fun e => !(e.id == edge)
def addZ (vs : List Vt) (es : List Eg) (S : List (Int × Sg)) (edge : Int) : Int :=
  if rightB vs es = false ∨ es.all (hasE vs S edge) = false ∨ othersN es edge + (if (getA S edge).isSome then 1 else 0) ≠ S.length then 1
  else if (es.find? fun e => e.id == edge).isSome = false then 6 else if (getA S edge).isSome then 7 else 0
theorem others_step {es : List Eg} {edge : Int} {j : Nat} {e : Eg} (h : es[j]? = some e) : othersN (es.take (j + 1)) edge = othersN (es.take j) edge + (if e.id == edge then 0 else 1) := by
  unfold othersN
  rw [List.take_add_one, h, List.countP_append]
  cases hh : e.id == edge <;> simp [hh]
theorem allE_step {α : Type} {f : α → Bool} {l : List α} {j : Nat} {a : α} (h : l[j]? = some a) : (l.take (j + 1)).all f = ((l.take j).all f && f a) := by
  rw [List.take_add_one, h, List.all_append]; simp
theorem allE_take {α : Type} {f : α → Bool} {l : List α} {j : Nat} (h : (l.take j).all f = false) : l.all f = false := by
  rw [List.all_eq_false] at h ⊢
  obtain ⟨x, h1, h2⟩ := h
  exact ⟨x, List.mem_of_mem_take h1, h2⟩
set_option maxRecDepth 100000 in
set_option maxHeartbeats 8000000 in
theorem addN_any (v : Value) (edge : Int) (w : World) : Calls Try.prog 44 #[.pointer none, v, .int .i64 edge] w fun e w' => e = .returned (.int .i64 1) ∧ Below w.heap.size w w' := by
  have H := Own.start w
  go_enter Try.func44, Try.ntmps44
  have tk0 : True := trivial
  go_wp2_with (first
    | go_big_skip
    | (guard_target =~ wpList _ _ _ (_ :: _) _ _; ((guard_target =~ wpList _ _ _ (Oper.mk _ (.box _ _) _ _ _ _ :: _) _ _; refine BigFrame.wpList_want rfl (fun K hK => ?_); refine o_box rfl H rfl (fun w3 b2 he H2 => hK _ _ ?_)); clear hK K he; clear H; (try clear w2); revert w3; intro w2 H; simp [Act.eval, Value.cells, setL, List.getD] at H; (clear tk0; rename Nat => b1)); simp only [Act.put, List.setIfInBounds_toArray, List.set_cons_succ, List.set_cons_zero]))
  go_ret
  exact ⟨rfl, H.below⟩
theorem add_right {vs : List Vt} {es : List Eg} {S : List (Int × Sg)} {edge : Int} (h : rightB vs es = false) : addZ vs es S edge = 1 := by unfold addZ; rw [if_pos (.inl h)]
theorem add_other {vs : List Vt} {es : List Eg} {S : List (Int × Sg)} {edge : Int} (h : es.all (hasE vs S edge) = false) : addZ vs es S edge = 1 := by unfold addZ; rw [if_pos (.inr (.inl h))]
theorem add_count {vs : List Vt} {es : List Eg} {S : List (Int × Sg)} {edge : Int} (h : othersN es edge + (if (getA S edge).isSome then 1 else 0) ≠ S.length) : addZ vs es S edge = 1 := by unfold addZ; rw [if_pos (.inr (.inr h))]
theorem add_rest {vs : List Vt} {es : List Eg} {S : List (Int × Sg)} {edge : Int} (h1 : rightB vs es = true) (h2 : es.all (hasE vs S edge) = true) (h3 : othersN es edge + (if (getA S edge).isSome then 1 else 0) = S.length) :
    addZ vs es S edge = if (es.find? fun e => e.id == edge).isSome = false then 6 else if (getA S edge).isSome then 7 else 0 := by
  unfold addZ; rw [if_neg]
  rw [h1, h2]
  simp [h3]
theorem others_le (es : List Eg) (edge : Int) (j : Nat) : othersN (es.take j) edge ≤ j := by
  unfold othersN
  exact Nat.le_trans List.countP_le_length (by rw [List.length_take]; omega)
set_option maxRecDepth 100000 in
set_option maxHeartbeats 16000000 in
theorem add_any {B : Nat} {w0 w : World} {l : List Res} {bx ks ke cn cp dn dp : Nat} {X : IxS} {L : List (Int × Sg)} (vs : List Vt) (es : List Eg) (edge : Int) (A A2 : Option Addr) (n m : Nat) (c c2 : Nat) (F : Nat → Prop) (hn : n = vs.length) (hm : m = es.length) (hL : PutsR L X) (hLl : addZ vs es X.S edge = 0 → L.length < 40) (hSl : X.S.length ≤ 40)
    (H : Own B w0 w (xL bx ks ke cn cp dn dp X l)) (hs : Sl (FW F (xL bx ks ke cn cp dn dp X l)) w A (vR vs)) (hs2 : Sl (FW F (xL bx ks ke cn cp dn dp X l)) w A2 (eR es)) (hl : n ≤ 1000000) (hl2 : m ≤ 40) (hc2 : m ≤ c2) (hcc : c2 ≤ maxLen) :
    Calls Try.prog 44 #[.pointer (some ⟨bx, 0, none⟩), .agg #[.slice A n c, .slice A2 m c2], .int .i64 edge] w fun e w' => e = .returned (.int .i64 (addZ vs es X.S edge)) ∧
      (addZ vs es X.S edge ≠ 0 → Own B w0 w' (xL bx ks ke cn cp dn dp X l)) ∧ (addZ vs es X.S edge = 0 → ∃ Y dn' dp' cn' cp', PutsR ((edge, segI vs es edge) :: L) Y ∧ Own B w0 w' (xL bx ks ke cn' cp' dn' dp' Y l)) := by
  obtain ⟨b0, o0, H1, f0⟩ := H.addSl hs
  replace hs2 := H1.moreRo rfl hs2
  clear H
  obtain ⟨b9, o9, H, f9⟩ := H1.addSl hs2
  clear hs hs2 H1
  have HN := Lib.hid hn
  have HM := Lib.hid hm
  have HL := Lib.hid hL
  have HLL := Lib.hid hLl
  have h1 := fun F w a b => right_any vs es A A2 n m c c2 F w hn hm a b hl (by omega) hc2 hcc
  have h2 := fun F w a => edge_any es A2 A m n c2 c F edge w hm a (by omega)
  have h3 := fun F w a x y i => segOf_any vs A A2 n m c c2 F i x y w hn a hl
  have hg := eqSg_guard
  cases hr : rightB vs es
  · have hz := add_right (es := es) (S := X.S) (edge := edge) hr
    rw [hr] at h1
    rw [hz]
    clear h2 h3 hn hm hL hLl
    go_enter Try.func44, Try.ntmps44
    have tk0 : True := trivial
    go_wp2_with (first
      | (go_at_call 25; (with_reducible refine (h1 _ _ (by exact H.giveRd m2 f0) (by exact H.giveRd m1 f9)).mono ?_); rintro e w3 ⟨rfl, hb⟩; replace H := H.ext hb; clear hb; dsimp only)
      | (guard_target =~ wpList _ _ _ (_ :: _) _ _; (first | (guard_target =~ wpList _ _ _ (Oper.mk _ (.load _ _) _ _ _ _ :: _) _ _; refine BigFrame.wpList_want rfl (fun K hK => ?_); (refine o_loadNC (row := ?_) rfl rfl H ?_ ?_ ?_ (hK _ _ ?_); rotate_left 1; (repeat first | exact .head _ | apply List.Mem.tail); (focus (intro _; simp; done)); (focus (intro _; simp; done))); clear hK K) | ((guard_target =~ wpList _ _ _ (Oper.mk _ (.box _ _) _ _ _ _ :: _) _ _; refine BigFrame.wpList_want rfl (fun K hK => ?_); refine o_box rfl H rfl (fun w3 b2 he H2 => hK _ _ ?_)); clear hK K he; clear H; (try clear w2); revert w3; intro w2 H; simp [Act.eval, Value.cells, setL, List.getD] at H; (clear tk0; rename Nat => b1))); simp only [Act.put, List.setIfInBounds_toArray, List.set_cons_succ, List.set_cons_zero]))
    go_ret
    exact ⟨rfl, fun _ => (H.sub (by repeat first | exact List.Sublist.refl _ | apply List.Sublist.cons_cons | apply List.Sublist.cons)), fun h => absurd h (by decide)⟩
  have hends : ∀ i x y, (⟨i, x, y⟩ : Eg) ∈ es → (vs.find? fun v => v.id == x).isSome = true ∧ (vs.find? fun v => v.id == y).isSome = true := fun i x y h => ((rightT_P hr).each _ h).2.1.2
  rw [hr] at h1
  have HE := Lib.hid hends
  have HR := Lib.hid hr
  clear hends hr hn hm hL hLl
  go_enter Try.func44, Try.ntmps44
  have tk0 : True := trivial
  go_wp2_with (first
    | (go_at_call 25; (with_reducible refine (h1 _ _ (by exact H.giveRd m2 f0) (by exact H.giveRd m1 f9)).mono ?_); rintro e w3 ⟨rfl, hb⟩; replace H := H.ext hb; clear hb; dsimp only)
    | (guard_target =~ wpList _ _ _ (_ :: _) _ _; (first | (guard_target =~ wpList _ _ _ (Oper.mk _ (.load _ _) _ _ _ _ :: _) _ _; refine BigFrame.wpList_want rfl (fun K hK => ?_); (first | (refine o_loadC (v := ?_) (row := ?_) rfl rfl H ?_ ?_ ?_ (hK _ _ ?_); rotate_left 2; (repeat first | exact .head _ | apply List.Mem.tail); (exact rfl); (focus (intro _; simp; done))) | (refine o_loadNC (row := ?_) rfl rfl H ?_ ?_ ?_ (hK _ _ ?_); rotate_left 1; (repeat first | exact .head _ | apply List.Mem.tail); (focus (intro _; simp; done)); (focus (intro _; simp; done)))); clear hK K) | ((guard_target =~ wpList _ _ _ (Oper.mk _ (.box _ _) _ _ _ _ :: _) _ _; refine BigFrame.wpList_want rfl (fun K hK => ?_); refine o_box rfl H rfl (fun w3 b2 he H2 => hK _ _ ?_)); clear hK K he; clear H; (try clear w2); revert w3; intro w2 H; simp [Act.eval, Value.cells, setL, List.getD] at H; (clear tk0; rename Nat => b1))); simp only [Act.put, List.setIfInBounds_toArray, List.set_cons_succ, List.set_cons_zero]))
  go_loopg [26, 7] m (fun k i u wr => k ≤ m ∧ i = .int .i64 ((m - k : Nat) : Int) ∧ u = .int .i64 ((othersN (es.take (m - k)) edge : Nat) : Int) ∧ (es.take (m - k)).all (hasE vs X.S edge) = true ∧ Own B w0 wr (.cells b1 [.slice A n c, .slice A2 m c2] :: .rd A2 b9 o9 (eR es) :: .rd A b0 o0 (vR vs) :: xL bx ks ke cn cp dn dp X l))
  case atStart => exact ⟨Nat.le_refl _, by simp, by simp [othersN], by simp, H⟩
  case round =>
    clear H
    obtain ⟨hk, rfl, rfl, ha, H⟩ := hrel
    by_cases hlt : 0 < gk
    · obtain ⟨j, hj⟩ : ∃ j, m - gk = j := ⟨_, rfl⟩
      have hjl : j < m := by omega
      rw [hj] at ha ⊢
      have hnj := others_le es edge j
      obtain ⟨i, x, y, he⟩ := eg_at es (by have := HM.out; omega : j < es.length)
      have has := allE_step (f := hasE vs X.S edge) he
      obtain rfl := H.rdAddr m1 (eR_pos he)
      have hp := at_e (A := some ⟨b9, o9, none⟩) (b := b9) (off := o9) he
      obtain ⟨v1, hv1⟩ : ∃ v, (i == edge) = v := ⟨_, rfl⟩
      have ho : othersN (es.take (j + 1)) edge = othersN (es.take j) edge + (if v1 then 0 else 1) := by rw [others_step he]; simp only [hv1]
      obtain ⟨hx, hy⟩ := HE.out i x y (List.mem_of_getElem? he)
      have h5 := fun F w a => h3 F w a x y i hx hy
      rw [ha, Bool.true_and] at has
      generalize othersN (es.take j) edge = q at ho hnj ⊢
      have HHE : Hid (hasE vs X.S edge ⟨i, x, y⟩ = (v1 || decide (getA X.S i = some (segZ vs x y)))) := Lib.hid (by unfold hasE; simp only [hv1])
      have HO := Lib.hid ho
      have HAS := Lib.hid has
      have HJ := Lib.hid hj
      clear ho has hj he ha hx hy
      cases v1
      · obtain ⟨⟨⟨ux, uy⟩, ⟨vx, vy⟩⟩, hseg⟩ : ∃ s, segZ vs x y = s := ⟨_, rfl⟩
        rw [hseg] at h5 HHE
        cases hs0 : getA X.S i with
        | none =>
          have hz : addZ vs es X.S edge = 1 := add_other (allE_take (j := j + 1) (by rw [HAS.out, HHE.out, hs0]; simp))
          have HZ := Lib.hid hz
          clear hseg hz
          have tk0 : True := trivial
          have tk1 : True := trivial
          go_wp2_with (first
            | (guard_target =~ Code.wp _ (Code.region 8 _ true) _ _ _; refine region_treeC0 8 (G := True) (.q 0 (.q 1 (.q 2 (.q 3 (.q 4 (.q 5 (.q 6 (.q 7 (.q 8 (.q 9 (.e 10 (.e 11 (.q 12 .nil))))))))))))) (by kernel_rfl) (by intro c a d v w h; cases d <;> first | exact h | exact hQ h) (by kernel_rfl) H ⟨trivial⟩ (fun _ w3 H2 => ?_); (clear H; (try clear w2); revert w3; intro w2 H))
            | (guard_target =~ Code.wp _ (Code.region 9 _ true) _ _ _; refine region_treeC0 9 (G := True) (.q 0 (.q 1 (.q 2 (.q 3 (.q 4 (.q 5 (.q 6 (.q 7 (.q 8 .nil))))))))) (by kernel_rfl) (by intro c a d v w h; cases d <;> first | exact h | exact hQ h) (by kernel_rfl) H ⟨trivial⟩ (fun _ w3 H2 => ?_); (clear H; (try clear w2); revert w3; intro w2 H))
            | (guard_target =~ wpList _ _ _ (_ :: _) _ _; (first | (guard_target =~ wpList _ _ _ (Oper.mk _ (.load _ _) _ _ _ _ :: _) _ _; refine BigFrame.wpList_want rfl (fun K hK => ?_); (first | (refine o_loadC (v := ?_) (row := ?_) rfl rfl H ?_ ?_ ?_ (hK _ _ ?_); rotate_left 2; (repeat first | exact .head _ | apply List.Mem.tail); (exact rfl); (focus (intro _; simp [hs0]; done))) | (refine o_loadN (cs := ?_) (r := ?_) rfl rfl H ?_ ?_ ?_ ?_ (hK _ _ ?_); rotate_left 2; (with_reducible assumption); (repeat first | exact .head _ | apply List.Mem.tail); (focus (intro _; simp [hs0]; done)); (focus (intro _; simp [hs0]; done)))); clear hK K) | (guard_target =~ wpList _ _ _ (Oper.mk _ (.store _ _ _) _ _ _ _ :: _) _ _; refine BigFrame.wpList_want rfl (fun K hK => ?_); refine o_store (l' := ?_) (row := ?_) rfl rfl H rfl ?_ ?_ ?_ ?_ (fun w3 H2 => hK _ _ ?_); rotate_left 2; (exact r0); (focus (intro _; (simp [Act.eval, Value.cells, List.getD, hs0]; done))); (focus (simp [Act.eval, Value.cells, List.getD, hs0]; done)); (exact rfl); clear hK K; clear H; (try clear w2); revert w3; intro w2 H; (try simp [Act.eval, List.getD, hs0] at H); (try simp [Value.cells, setL, hs0] at H)) | ((guard_target =~ wpList _ _ _ (Oper.mk _ (.alloc _) _ _ _ _ :: _) _ _; refine BigFrame.wpList_want rfl (fun K hK => ?_); refine o_alloc (z := ?_) rfl ?_ H rfl (fun w3 b2 he H2 => hK _ _ ?_); rotate_left 1; (focus (intro _; simp; with_reducible exact rfl))); clear hK K he; clear H; (try clear w2); revert w3; intro w2 H; (try simp [Act.eval, List.getD, hs0] at H); (try simp [Value.cells, setL, hs0] at H); (clear tk0; rename Nat => b2))); simp only [Act.put, List.setIfInBounds_toArray, List.set_cons_succ, List.set_cons_zero, hs0])
            | (guard_target =~ wpTreeC _ _ _ _ _ _ _; first | (guard_target =~ wpTreeC _ _ _ (Tr.e _ Tr.nil) _ _ _; refine treeC_last (by decide +kernel) H rfl rfl (fun w3 H2 K hK => ?_); clear H; (try clear w2); (revert w3; intro w2 H); simp only [List.getElem_toArray, List.getElem_cons_succ, List.getElem_cons_zero]; (first | fail); simp only [Act.put, List.setIfInBounds_toArray, List.set_cons_succ, List.set_cons_zero, hs0]) | (guard_target =~ wpTreeC _ _ _ (Tr.q _ _) _ _ _; first | (refine treeC_quiet ⟨_, H, by repeat first | exact .here | apply Suf.there⟩ rfl rfl rfl (fun K hK => ?_); simp only [List.getElem_toArray, List.getElem_cons_succ, List.getElem_cons_zero]; first | (guard_target =~ Oper.quiet _ (Oper.mk _ (.lookup _ _ _ false) _ _ _ _) _ _ _; refine q_segGet (m := ?_) rfl rfl rfl ?_ (hK _ ?_); rotate_left 1; (repeat first | exact .head _ | apply List.Mem.tail); clear hK K; simp only [Act.put, List.setIfInBounds_toArray, List.set_cons_succ, List.set_cons_zero, hs0]) | (guard_target =~ Oper.quiet _ (Oper.mk _ (.lookup _ _ _ true) _ _ _ _) _ _ _; refine q_segOk (m := ?_) rfl rfl rfl ?_ (hK _ ?_); rotate_left 1; (repeat first | exact .head _ | apply List.Mem.tail); clear hK K; simp only [Act.put, List.setIfInBounds_toArray, List.set_cons_succ, List.set_cons_zero, hs0]) | (guard_target =~ Oper.quiet _ (Oper.mk _ (.load _ _) _ _ _ _) _ _ _; (refine q_loadC (v := ?_) (row := ?_) rfl rfl ?_ ?_ ?_ (hK _ ?_); rotate_left 2; (repeat first | exact .head _ | apply List.Mem.tail); (exact rfl); (focus (intro _; simp [hs0]; done))); clear hK K; simp only [Act.put, List.setIfInBounds_toArray, List.set_cons_succ, List.set_cons_zero, hs0]) | (go_big_quiet_op; (try refine ⟨_, fun _ _ => rfl, ?_⟩); refine hK _ ?_; clear hK K)) | (refine treeC_call (v := ?_) ⟨_, H, by repeat first | exact .here | apply Suf.there⟩ rfl rfl (fun w3 H K hK => ?_) ?_; rotate_left 1; (focus (simp only [List.getElem_toArray, List.getElem_cons_succ, List.getElem_cons_zero]; first | (refine o_segLen (m := ?_) rfl H ?_ ?_; rotate_left 1; (repeat first | exact .head _ | apply List.Mem.tail); exact hK _ (Ext.refl _)) | (go_big_op; first | exact hK _ (Ext.refl _) | (go_at_call 63; (with_reducible refine (h5 _ _ (by first | fail)).mono ?_); rintro e w3 ⟨rfl, hb⟩; dsimp only; first | exact hK _ hb | exact hK _ (Ext.refl _))))); simp only [List.getElem_toArray, List.getElem_cons_succ, List.getElem_cons_zero, Act.put, List.setIfInBounds_toArray, List.set_cons_succ, List.set_cons_zero, hs0]) | (refine treeC_skip ⟨_, H, by repeat first | exact .here | apply Suf.there⟩ rfl rfl ?_; simp only [List.getElem_toArray, List.getElem_cons_succ, List.getElem_cons_zero, Act.put, List.setIfInBounds_toArray, List.set_cons_succ, List.set_cons_zero, hs0])) | (guard_target =~ wpTreeC _ _ _ (Tr.both _ _) _ _ _; refine treeC_both ?_ ?_) | (guard_target =~ wpTreeC _ _ _ (Tr.e _ _) _ _ _; first | (refine treeC_one H rfl rfl (fun w3 H2 K hK => ?_); clear H; (try clear w2); (revert w3; intro w2 H); simp only [List.getElem_toArray, List.getElem_cons_succ, List.getElem_cons_zero]; first | ((first | (guard_target =~ Oper.wp _ (Oper.mk _ (.store _ _ _) _ _ _ _) _ _ _ _; refine o_store (l' := ?_) (row := ?_) rfl rfl H rfl ?_ ?_ ?_ ?_ (fun w3 H2 => hK _ _ ⟨_, H2, ?_⟩ ?_); rotate_left 2; (exact r0); (focus (intro _; (simp [Act.eval, Value.cells, List.getD, hs0]; done))); (focus (simp [Act.eval, Value.cells, List.getD, hs0]; done)); (exact rfl); (guard_target =~ Suf _ _; repeat first | exact .here | apply Suf.there); clear hK K; clear H; (try clear w2); revert w3; intro w2 H; (try simp [Act.eval, List.getD, hs0] at H); (try simp [Value.cells, setL, hs0] at H)) | ((guard_target =~ Oper.wp _ (Oper.mk _ (.alloc _) _ _ _ _) _ _ _ _; refine o_alloc (z := ?_) rfl ?_ H rfl (fun w3 b2 he H2 => hK _ _ ⟨_, H2, ?_⟩ ?_); rotate_left 1; (focus (intro _; simp; with_reducible exact rfl))); (guard_target =~ Suf _ _; repeat first | exact .here | apply Suf.there); clear hK K he; clear H; (try clear w2); revert w3; intro w2 H; (try simp [Act.eval, List.getD, hs0] at H); (try simp [Value.cells, setL, hs0] at H); (clear tk1; rename Nat => b3))); simp only [Act.put, List.setIfInBounds_toArray, List.set_cons_succ, List.set_cons_zero, hs0]) | (go_big_op; (first | fail))) | (refine treeC_one_skip (fun w3 hx => ⟨_, H.ext hx, by repeat first | exact .here | apply Suf.there⟩) rfl rfl (fun w3 hx => ?_); replace H := H.ext hx; clear hx; (try clear w2); revert w3; intro w2 H; simp only [List.getElem_toArray, List.getElem_cons_succ, List.getElem_cons_zero, Act.put, List.setIfInBounds_toArray, List.set_cons_succ, List.set_cons_zero, hs0])) | (guard_target =~ wpTreeC _ _ _ Tr.nil _ _ _; refine treeC_nil H (fun w3 H2 => ?_); clear H; (try clear w2); revert w3; intro w2 H)))
          go_ret
          exact ⟨by rw [HZ.out]; rfl, fun _ => (H.sub (by repeat first | exact List.Sublist.refl _ | apply List.Sublist.cons_cons | apply List.Sublist.cons)), fun h => absurd (HZ.out.symm.trans h) (by decide)⟩
        | some s0 =>
          obtain ⟨⟨ax, ay⟩, ⟨sx, sy⟩⟩ := s0
          have hq := fun w => eqSg_neq ⟨⟨ax, ay⟩, ⟨sx, sy⟩⟩ ⟨⟨ux, uy⟩, ⟨vx, vy⟩⟩ w
          simp only [sgV] at hq h5
          by_cases hd : (⟨⟨ax, ay⟩, ⟨sx, sy⟩⟩ : Sg) = ⟨⟨ux, uy⟩, ⟨vx, vy⟩⟩
          · rw [decide_eq_true hd, Bool.not_true] at hq
            have hte : hasE vs X.S edge ⟨i, x, y⟩ = true := by rw [HHE.out, hs0, hd]; simp
            have HTE := Lib.hid hte
            clear hseg hd hte
            have tk0 : True := trivial
            have tk1 : True := trivial
            go_wp2_with (first
              | (guard_target =~ Code.wp _ (Code.region 8 _ true) _ _ _; refine region_treeC0 8 (G := True) (.q 0 (.q 1 (.q 2 (.q 3 (.q 4 (.q 5 (.q 6 (.q 7 (.q 8 (.q 9 (.e 10 (.e 11 (.q 12 .nil))))))))))))) (by kernel_rfl) (by intro c a d v w h; cases d <;> first | exact h | exact hQ h) (by kernel_rfl) H ⟨trivial⟩ (fun _ w3 H2 => ?_); (clear H; (try clear w2); revert w3; intro w2 H))
              | (guard_target =~ Code.wp _ (Code.region 9 _ true) _ _ _; refine region_treeC0 9 (G := True) (.q 0 (.q 1 (.q 2 (.q 3 (.q 4 (.q 5 (.q 6 (.q 7 (.q 8 .nil))))))))) (by kernel_rfl) (by intro c a d v w h; cases d <;> first | exact h | exact hQ h) (by kernel_rfl) H ⟨trivial⟩ (fun _ w3 H2 => ?_); (clear H; (try clear w2); revert w3; intro w2 H))
              | (guard_target =~ wpList _ _ _ (_ :: _) _ _; (first | (guard_target =~ wpList _ _ _ (Oper.mk _ (.load _ _) _ _ _ _ :: _) _ _; refine BigFrame.wpList_want rfl (fun K hK => ?_); (first | (refine o_loadC (v := ?_) (row := ?_) rfl rfl H ?_ ?_ ?_ (hK _ _ ?_); rotate_left 2; (repeat first | exact .head _ | apply List.Mem.tail); (exact rfl); (focus (intro _; simp [hs0, hq]; done))) | (refine o_loadN (cs := ?_) (r := ?_) rfl rfl H ?_ ?_ ?_ ?_ (hK _ _ ?_); rotate_left 2; (with_reducible assumption); (repeat first | exact .head _ | apply List.Mem.tail); (focus (intro _; simp [hs0, hq]; done)); (focus (intro _; simp [hs0, hq]; done)))); clear hK K) | (guard_target =~ wpList _ _ _ (Oper.mk _ (.store _ _ _) _ _ _ _ :: _) _ _; refine BigFrame.wpList_want rfl (fun K hK => ?_); refine o_store (l' := ?_) (row := ?_) rfl rfl H rfl ?_ ?_ ?_ ?_ (fun w3 H2 => hK _ _ ?_); rotate_left 2; (exact r0); (focus (intro _; (simp [Act.eval, Value.cells, List.getD, hs0, hq]; done))); (focus (simp [Act.eval, Value.cells, List.getD, hs0, hq]; done)); (exact rfl); clear hK K; clear H; (try clear w2); revert w3; intro w2 H; (try simp [Act.eval, List.getD, hs0, hq] at H); (try simp [Value.cells, setL, hs0, hq] at H)) | ((guard_target =~ wpList _ _ _ (Oper.mk _ (.alloc _) _ _ _ _ :: _) _ _; refine BigFrame.wpList_want rfl (fun K hK => ?_); refine o_alloc (z := ?_) rfl ?_ H rfl (fun w3 b2 he H2 => hK _ _ ?_); rotate_left 1; (focus (intro _; simp; with_reducible exact rfl))); clear hK K he; clear H; (try clear w2); revert w3; intro w2 H; (try simp [Act.eval, List.getD, hs0, hq] at H); (try simp [Value.cells, setL, hs0, hq] at H); (clear tk0; rename Nat => b2))); simp only [Act.put, List.setIfInBounds_toArray, List.set_cons_succ, List.set_cons_zero, hs0, hq])
              | (guard_target =~ wpTreeC _ _ _ _ _ _ _; first | (guard_target =~ wpTreeC _ _ _ (Tr.e _ Tr.nil) _ _ _; refine treeC_last (by decide +kernel) H rfl rfl (fun w3 H2 K hK => ?_); clear H; (try clear w2); (revert w3; intro w2 H); simp only [List.getElem_toArray, List.getElem_cons_succ, List.getElem_cons_zero]; (first | fail); simp only [Act.put, List.setIfInBounds_toArray, List.set_cons_succ, List.set_cons_zero, hs0, hq]) | (guard_target =~ wpTreeC _ _ _ (Tr.q _ _) _ _ _; first | (refine treeC_quiet ⟨_, H, by repeat first | exact .here | apply Suf.there⟩ rfl rfl rfl (fun K hK => ?_); simp only [List.getElem_toArray, List.getElem_cons_succ, List.getElem_cons_zero]; first | (guard_target =~ Oper.quiet _ (Oper.mk _ (.lookup _ _ _ false) _ _ _ _) _ _ _; refine q_segGet (m := ?_) rfl rfl rfl ?_ (hK _ ?_); rotate_left 1; (repeat first | exact .head _ | apply List.Mem.tail); clear hK K; simp only [Act.put, List.setIfInBounds_toArray, List.set_cons_succ, List.set_cons_zero, hs0, hq]) | (guard_target =~ Oper.quiet _ (Oper.mk _ (.lookup _ _ _ true) _ _ _ _) _ _ _; refine q_segOk (m := ?_) rfl rfl rfl ?_ (hK _ ?_); rotate_left 1; (repeat first | exact .head _ | apply List.Mem.tail); clear hK K; simp only [Act.put, List.setIfInBounds_toArray, List.set_cons_succ, List.set_cons_zero, hs0, hq]) | (guard_target =~ Oper.quiet _ (Oper.mk _ (.load _ _) _ _ _ _) _ _ _; (first | (refine q_loadC (v := ?_) (row := ?_) rfl rfl ?_ ?_ ?_ (hK _ ?_); rotate_left 2; (repeat first | exact .head _ | apply List.Mem.tail); (exact rfl); (focus (intro _; simp [hs0, hq]; done))) | (refine q_loadNC (row := ?_) rfl rfl ?_ ?_ ?_ (hK _ ?_); rotate_left 1; (repeat first | exact .head _ | apply List.Mem.tail); (focus (intro _; simp [hs0, hq]; done)); (focus (intro _; simp [hs0, hq]; done)))); clear hK K; simp only [Act.put, List.setIfInBounds_toArray, List.set_cons_succ, List.set_cons_zero, hs0, hq]) | (go_big_quiet_op; (try refine ⟨_, fun _ _ => rfl, ?_⟩); refine hK _ ?_; clear hK K)) | (refine treeC_call (v := ?_) ⟨_, H, by repeat first | exact .here | apply Suf.there⟩ rfl rfl (fun w3 H K hK => ?_) ?_; rotate_left 1; (focus (simp only [List.getElem_toArray, List.getElem_cons_succ, List.getElem_cons_zero]; first | (refine o_segLen (m := ?_) rfl H ?_ ?_; rotate_left 1; (repeat first | exact .head _ | apply List.Mem.tail); exact hK _ (Ext.refl _)) | (go_big_op; first | exact hK _ (Ext.refl _) | (go_at_call 63; (with_reducible refine (h5 _ _ (by exact H.giveRd m4 f0)).mono ?_); rintro e w3 ⟨rfl, hb⟩; dsimp only; first | exact hK _ hb | exact hK _ (Ext.refl _))))); simp only [List.getElem_toArray, List.getElem_cons_succ, List.getElem_cons_zero, Act.put, List.setIfInBounds_toArray, List.set_cons_succ, List.set_cons_zero, hs0, hq]) | (refine treeC_skip ⟨_, H, by repeat first | exact .here | apply Suf.there⟩ rfl rfl ?_; simp only [List.getElem_toArray, List.getElem_cons_succ, List.getElem_cons_zero, Act.put, List.setIfInBounds_toArray, List.set_cons_succ, List.set_cons_zero, hs0, hq])) | (guard_target =~ wpTreeC _ _ _ (Tr.both _ _) _ _ _; refine treeC_both ?_ ?_) | (guard_target =~ wpTreeC _ _ _ (Tr.e _ _) _ _ _; first | (refine treeC_one H rfl rfl (fun w3 H2 K hK => ?_); clear H; (try clear w2); (revert w3; intro w2 H); simp only [List.getElem_toArray, List.getElem_cons_succ, List.getElem_cons_zero]; first | ((first | (guard_target =~ Oper.wp _ (Oper.mk _ (.store _ _ _) _ _ _ _) _ _ _ _; refine o_store (l' := ?_) (row := ?_) rfl rfl H rfl ?_ ?_ ?_ ?_ (fun w3 H2 => hK _ _ ⟨_, H2, ?_⟩ ?_); rotate_left 2; (exact r0); (focus (intro _; (simp [Act.eval, Value.cells, List.getD, hs0, hq]; done))); (focus (simp [Act.eval, Value.cells, List.getD, hs0, hq]; done)); (exact rfl); (guard_target =~ Suf _ _; repeat first | exact .here | apply Suf.there); clear hK K; clear H; (try clear w2); revert w3; intro w2 H; (try simp [Act.eval, List.getD, hs0, hq] at H); (try simp [Value.cells, setL, hs0, hq] at H)) | ((guard_target =~ Oper.wp _ (Oper.mk _ (.alloc _) _ _ _ _) _ _ _ _; refine o_alloc (z := ?_) rfl ?_ H rfl (fun w3 b2 he H2 => hK _ _ ⟨_, H2, ?_⟩ ?_); rotate_left 1; (focus (intro _; simp; with_reducible exact rfl))); (guard_target =~ Suf _ _; repeat first | exact .here | apply Suf.there); clear hK K he; clear H; (try clear w2); revert w3; intro w2 H; (try simp [Act.eval, List.getD, hs0, hq] at H); (try simp [Value.cells, setL, hs0, hq] at H); (clear tk1; rename Nat => b3))); simp only [Act.put, List.setIfInBounds_toArray, List.set_cons_succ, List.set_cons_zero, hs0, hq]) | (go_big_op; (first | fail))) | (refine treeC_one_skip (fun w3 hx => ⟨_, H.ext hx, by repeat first | exact .here | apply Suf.there⟩) rfl rfl (fun w3 hx => ?_); replace H := H.ext hx; clear hx; (try clear w2); revert w3; intro w2 H; simp only [List.getElem_toArray, List.getElem_cons_succ, List.getElem_cons_zero, Act.put, List.setIfInBounds_toArray, List.set_cons_succ, List.set_cons_zero, hs0, hq])) | (guard_target =~ wpTreeC _ _ _ Tr.nil _ _ _; refine treeC_nil H (fun w3 H2 => ?_); clear H; (try clear w2); revert w3; intro w2 H)))
            go_roundg (gk - 1)
            case rel =>
              have e := show m - (gk - 1) = j + 1 by have := HJ.out; omega
              exact ⟨by omega, by rw [e]; simp, by rw [e, HO.out]; simp, by rw [e, HAS.out, HTE.out], (H.sub (by repeat first | exact List.Sublist.refl _ | apply List.Sublist.cons_cons | apply List.Sublist.cons))⟩
            case measure => omega
          · rw [decide_eq_false hd, Bool.not_false] at hq
            have hz : addZ vs es X.S edge = 1 := add_other (allE_take (j := j + 1) (by rw [HAS.out, HHE.out, hs0]; simp only [Option.some.injEq]; rw [decide_eq_false hd]; rfl))
            have HZ := Lib.hid hz
            clear hseg hd hz
            have tk0 : True := trivial
            have tk1 : True := trivial
            go_wp2_with (first
              | (guard_target =~ Code.wp _ (Code.region 8 _ true) _ _ _; refine region_treeC0 8 (G := True) (.q 0 (.q 1 (.q 2 (.q 3 (.q 4 (.q 5 (.q 6 (.q 7 (.q 8 (.q 9 (.e 10 (.e 11 (.q 12 .nil))))))))))))) (by kernel_rfl) (by intro c a d v w h; cases d <;> first | exact h | exact hQ h) (by kernel_rfl) H ⟨trivial⟩ (fun _ w3 H2 => ?_); (clear H; (try clear w2); revert w3; intro w2 H))
              | (guard_target =~ Code.wp _ (Code.region 9 _ true) _ _ _; refine region_treeC0 9 (G := True) (.q 0 (.q 1 (.q 2 (.q 3 (.q 4 (.q 5 (.q 6 (.q 7 (.q 8 .nil))))))))) (by kernel_rfl) (by intro c a d v w h; cases d <;> first | exact h | exact hQ h) (by kernel_rfl) H ⟨trivial⟩ (fun _ w3 H2 => ?_); (clear H; (try clear w2); revert w3; intro w2 H))
              | (guard_target =~ wpList _ _ _ (_ :: _) _ _; (first | (guard_target =~ wpList _ _ _ (Oper.mk _ (.load _ _) _ _ _ _ :: _) _ _; refine BigFrame.wpList_want rfl (fun K hK => ?_); (first | (refine o_loadC (v := ?_) (row := ?_) rfl rfl H ?_ ?_ ?_ (hK _ _ ?_); rotate_left 2; (repeat first | exact .head _ | apply List.Mem.tail); (exact rfl); (focus (intro _; simp [hs0, hq]; done))) | (refine o_loadN (cs := ?_) (r := ?_) rfl rfl H ?_ ?_ ?_ ?_ (hK _ _ ?_); rotate_left 2; (with_reducible assumption); (repeat first | exact .head _ | apply List.Mem.tail); (focus (intro _; simp [hs0, hq]; done)); (focus (intro _; simp [hs0, hq]; done)))); clear hK K) | (guard_target =~ wpList _ _ _ (Oper.mk _ (.store _ _ _) _ _ _ _ :: _) _ _; refine BigFrame.wpList_want rfl (fun K hK => ?_); refine o_store (l' := ?_) (row := ?_) rfl rfl H rfl ?_ ?_ ?_ ?_ (fun w3 H2 => hK _ _ ?_); rotate_left 2; (exact r0); (focus (intro _; (simp [Act.eval, Value.cells, List.getD, hs0, hq]; done))); (focus (simp [Act.eval, Value.cells, List.getD, hs0, hq]; done)); (exact rfl); clear hK K; clear H; (try clear w2); revert w3; intro w2 H; (try simp [Act.eval, List.getD, hs0, hq] at H); (try simp [Value.cells, setL, hs0, hq] at H)) | ((guard_target =~ wpList _ _ _ (Oper.mk _ (.alloc _) _ _ _ _ :: _) _ _; refine BigFrame.wpList_want rfl (fun K hK => ?_); refine o_alloc (z := ?_) rfl ?_ H rfl (fun w3 b2 he H2 => hK _ _ ?_); rotate_left 1; (focus (intro _; simp; with_reducible exact rfl))); clear hK K he; clear H; (try clear w2); revert w3; intro w2 H; (try simp [Act.eval, List.getD, hs0, hq] at H); (try simp [Value.cells, setL, hs0, hq] at H); (clear tk0; rename Nat => b2))); simp only [Act.put, List.setIfInBounds_toArray, List.set_cons_succ, List.set_cons_zero, hs0, hq])
              | (guard_target =~ wpTreeC _ _ _ _ _ _ _; first | (guard_target =~ wpTreeC _ _ _ (Tr.e _ Tr.nil) _ _ _; refine treeC_last (by decide +kernel) H rfl rfl (fun w3 H2 K hK => ?_); clear H; (try clear w2); (revert w3; intro w2 H); simp only [List.getElem_toArray, List.getElem_cons_succ, List.getElem_cons_zero]; (first | fail); simp only [Act.put, List.setIfInBounds_toArray, List.set_cons_succ, List.set_cons_zero, hs0, hq]) | (guard_target =~ wpTreeC _ _ _ (Tr.q _ _) _ _ _; first | (refine treeC_quiet ⟨_, H, by repeat first | exact .here | apply Suf.there⟩ rfl rfl rfl (fun K hK => ?_); simp only [List.getElem_toArray, List.getElem_cons_succ, List.getElem_cons_zero]; first | (guard_target =~ Oper.quiet _ (Oper.mk _ (.lookup _ _ _ false) _ _ _ _) _ _ _; refine q_segGet (m := ?_) rfl rfl rfl ?_ (hK _ ?_); rotate_left 1; (repeat first | exact .head _ | apply List.Mem.tail); clear hK K; simp only [Act.put, List.setIfInBounds_toArray, List.set_cons_succ, List.set_cons_zero, hs0, hq]) | (guard_target =~ Oper.quiet _ (Oper.mk _ (.lookup _ _ _ true) _ _ _ _) _ _ _; refine q_segOk (m := ?_) rfl rfl rfl ?_ (hK _ ?_); rotate_left 1; (repeat first | exact .head _ | apply List.Mem.tail); clear hK K; simp only [Act.put, List.setIfInBounds_toArray, List.set_cons_succ, List.set_cons_zero, hs0, hq]) | (guard_target =~ Oper.quiet _ (Oper.mk _ (.load _ _) _ _ _ _) _ _ _; (first | (refine q_loadC (v := ?_) (row := ?_) rfl rfl ?_ ?_ ?_ (hK _ ?_); rotate_left 2; (repeat first | exact .head _ | apply List.Mem.tail); (exact rfl); (focus (intro _; simp [hs0, hq]; done))) | (refine q_loadNC (row := ?_) rfl rfl ?_ ?_ ?_ (hK _ ?_); rotate_left 1; (repeat first | exact .head _ | apply List.Mem.tail); (focus (intro _; simp [hs0, hq]; done)); (focus (intro _; simp [hs0, hq]; done)))); clear hK K; simp only [Act.put, List.setIfInBounds_toArray, List.set_cons_succ, List.set_cons_zero, hs0, hq]) | (go_big_quiet_op; (try refine ⟨_, fun _ _ => rfl, ?_⟩); refine hK _ ?_; clear hK K)) | (refine treeC_call (v := ?_) ⟨_, H, by repeat first | exact .here | apply Suf.there⟩ rfl rfl (fun w3 H K hK => ?_) ?_; rotate_left 1; (focus (simp only [List.getElem_toArray, List.getElem_cons_succ, List.getElem_cons_zero]; first | (refine o_segLen (m := ?_) rfl H ?_ ?_; rotate_left 1; (repeat first | exact .head _ | apply List.Mem.tail); exact hK _ (Ext.refl _)) | (go_big_op; first | exact hK _ (Ext.refl _) | (go_at_call 63; (with_reducible refine (h5 _ _ (by exact H.giveRd m4 f0)).mono ?_); rintro e w3 ⟨rfl, hb⟩; dsimp only; first | exact hK _ hb | exact hK _ (Ext.refl _))))); simp only [List.getElem_toArray, List.getElem_cons_succ, List.getElem_cons_zero, Act.put, List.setIfInBounds_toArray, List.set_cons_succ, List.set_cons_zero, hs0, hq]) | (refine treeC_skip ⟨_, H, by repeat first | exact .here | apply Suf.there⟩ rfl rfl ?_; simp only [List.getElem_toArray, List.getElem_cons_succ, List.getElem_cons_zero, Act.put, List.setIfInBounds_toArray, List.set_cons_succ, List.set_cons_zero, hs0, hq])) | (guard_target =~ wpTreeC _ _ _ (Tr.both _ _) _ _ _; refine treeC_both ?_ ?_) | (guard_target =~ wpTreeC _ _ _ (Tr.e _ _) _ _ _; first | (refine treeC_one H rfl rfl (fun w3 H2 K hK => ?_); clear H; (try clear w2); (revert w3; intro w2 H); simp only [List.getElem_toArray, List.getElem_cons_succ, List.getElem_cons_zero]; first | ((first | (guard_target =~ Oper.wp _ (Oper.mk _ (.store _ _ _) _ _ _ _) _ _ _ _; refine o_store (l' := ?_) (row := ?_) rfl rfl H rfl ?_ ?_ ?_ ?_ (fun w3 H2 => hK _ _ ⟨_, H2, ?_⟩ ?_); rotate_left 2; (exact r0); (focus (intro _; (simp [Act.eval, Value.cells, List.getD, hs0, hq]; done))); (focus (simp [Act.eval, Value.cells, List.getD, hs0, hq]; done)); (exact rfl); (guard_target =~ Suf _ _; repeat first | exact .here | apply Suf.there); clear hK K; clear H; (try clear w2); revert w3; intro w2 H; (try simp [Act.eval, List.getD, hs0, hq] at H); (try simp [Value.cells, setL, hs0, hq] at H)) | ((guard_target =~ Oper.wp _ (Oper.mk _ (.alloc _) _ _ _ _) _ _ _ _; refine o_alloc (z := ?_) rfl ?_ H rfl (fun w3 b2 he H2 => hK _ _ ⟨_, H2, ?_⟩ ?_); rotate_left 1; (focus (intro _; simp; with_reducible exact rfl))); (guard_target =~ Suf _ _; repeat first | exact .here | apply Suf.there); clear hK K he; clear H; (try clear w2); revert w3; intro w2 H; (try simp [Act.eval, List.getD, hs0, hq] at H); (try simp [Value.cells, setL, hs0, hq] at H); (clear tk1; rename Nat => b3))); simp only [Act.put, List.setIfInBounds_toArray, List.set_cons_succ, List.set_cons_zero, hs0, hq]) | (go_big_op; (first | fail))) | (refine treeC_one_skip (fun w3 hx => ⟨_, H.ext hx, by repeat first | exact .here | apply Suf.there⟩) rfl rfl (fun w3 hx => ?_); replace H := H.ext hx; clear hx; (try clear w2); revert w3; intro w2 H; simp only [List.getElem_toArray, List.getElem_cons_succ, List.getElem_cons_zero, Act.put, List.setIfInBounds_toArray, List.set_cons_succ, List.set_cons_zero, hs0, hq])) | (guard_target =~ wpTreeC _ _ _ Tr.nil _ _ _; refine treeC_nil H (fun w3 H2 => ?_); clear H; (try clear w2); revert w3; intro w2 H)))
            go_ret
            exact ⟨by rw [HZ.out]; rfl, fun _ => (H.sub (by repeat first | exact List.Sublist.refl _ | apply List.Sublist.cons_cons | apply List.Sublist.cons)), fun h => absurd (HZ.out.symm.trans h) (by decide)⟩
      · have tk0 : True := trivial
        have tk1 : True := trivial
        go_wp2_with (guard_target =~ wpList _ _ _ (_ :: _) _ _; (first | (guard_target =~ wpList _ _ _ (Oper.mk _ (.load _ _) _ _ _ _ :: _) _ _; refine BigFrame.wpList_want rfl (fun K hK => ?_); (first | (refine o_loadC (v := ?_) (row := ?_) rfl rfl H ?_ ?_ ?_ (hK _ _ ?_); rotate_left 2; (repeat first | exact .head _ | apply List.Mem.tail); (exact rfl); (focus (intro _; simp; done))) | (refine o_loadN (cs := ?_) (r := ?_) rfl rfl H ?_ ?_ ?_ ?_ (hK _ _ ?_); rotate_left 2; (with_reducible assumption); (repeat first | exact .head _ | apply List.Mem.tail); (focus (intro _; simp; done)); (focus (intro _; simp; done)))); clear hK K) | (guard_target =~ wpList _ _ _ (Oper.mk _ (.store _ _ _) _ _ _ _ :: _) _ _; refine BigFrame.wpList_want rfl (fun K hK => ?_); refine o_store (l' := ?_) (row := ?_) rfl rfl H rfl ?_ ?_ ?_ ?_ (fun w3 H2 => hK _ _ ?_); rotate_left 2; (exact r0); (focus (intro _; simp [Act.eval, Value.cells]; done)); (focus (simp [Act.eval, Value.cells]; done)); (exact rfl); clear hK K; clear H; (try clear w2); revert w3; intro w2 H; simp [Act.eval, Value.cells, setL, List.getD] at H) | ((guard_target =~ wpList _ _ _ (Oper.mk _ (.alloc _) _ _ _ _ :: _) _ _; refine BigFrame.wpList_want rfl (fun K hK => ?_); refine o_alloc (z := ?_) rfl ?_ H rfl (fun w3 b2 he H2 => hK _ _ ?_); rotate_left 1; (focus (intro _; simp; with_reducible exact rfl))); clear hK K he; clear H; (try clear w2); revert w3; intro w2 H; simp [Act.eval, Value.cells, setL, List.getD] at H; (clear tk0; rename Nat => b2))); simp only [Act.put, List.setIfInBounds_toArray, List.set_cons_succ, List.set_cons_zero])
        go_roundg (gk - 1)
        case rel =>
          have e := show m - (gk - 1) = j + 1 by have := HJ.out; omega
          exact ⟨by omega, by rw [e]; simp, by rw [e, HO.out]; simp, by rw [e, HAS.out, HHE.out]; rfl, (H.sub (by repeat first | exact List.Sublist.refl _ | apply List.Sublist.cons_cons | apply List.Sublist.cons))⟩
        case measure => omega
    · obtain rfl : gk = 0 := by omega
      have htk : es.take (m - 0) = es := by rw [Nat.sub_zero]; exact List.take_of_length_le (by have := HM.out; omega)
      rw [htk] at ha ⊢
      have hnm : othersN es edge ≤ 40 := by
        have := others_le es edge es.length
        rw [List.take_length] at this
        have := HM.out; omega
      have HA := Lib.hid ha
      obtain ⟨q, hq⟩ : ∃ q, othersN es edge = q := ⟨_, rfl⟩
      rw [hq] at hnm ⊢
      have HQ := Lib.hid hq
      clear htk ha hq
      cases hs1 : getA X.S edge with
      | none =>
        by_cases hcnt : q = X.S.length
        · have hcn : ((q : Int) != (X.S.length : Int)) = false := by rw [hcnt]; simp
          have hz := add_rest (S := X.S) HR.out HA.out (by rw [HQ.out, hs1]; simpa using hcnt)
          rw [hs1] at hz
          cases ho : (es.find? fun e => e.id == edge) with
          | none =>
            rw [ho] at h2 hz
            simp only [egV, Option.isSome_none, if_true] at h2 hz
            have HZ := Lib.hid hz
            clear hz ho hcnt
            have tk0 : True := trivial
            have tk1 : True := trivial
            go_wp2_with (first
              | (go_at_call 59; (with_reducible refine (h2 _ _ (by exact H.giveRd m2 f9)).mono ?_); rintro e w3 ⟨rfl, hb⟩; replace H := H.ext hb; clear hb; dsimp only)
              | (guard_target =~ wpList _ _ _ (_ :: _) _ _; (first | (guard_target =~ wpList _ _ _ (Oper.mk _ (.load _ _) _ _ _ _ :: _) _ _; refine BigFrame.wpList_want rfl (fun K hK => ?_); (first | (refine o_loadC (v := ?_) (row := ?_) rfl rfl H ?_ ?_ ?_ (hK _ _ ?_); rotate_left 2; (repeat first | exact .head _ | apply List.Mem.tail); (exact rfl); (focus (intro _; simp [hs1, hcn]; done))) | (refine o_loadNC (row := ?_) rfl rfl H ?_ ?_ ?_ (hK _ _ ?_); rotate_left 1; (repeat first | exact .head _ | apply List.Mem.tail); (focus (intro _; simp [hs1, hcn]; done)); (focus (intro _; simp [hs1, hcn]; done)))); clear hK K) | (guard_target =~ wpList _ _ _ (Oper.mk _ (.store _ _ _) _ _ _ _ :: _) _ _; refine BigFrame.wpList_want rfl (fun K hK => ?_); refine o_store (l' := ?_) (row := ?_) rfl rfl H rfl ?_ ?_ ?_ ?_ (fun w3 H2 => hK _ _ ?_); rotate_left 2; (exact r0); (focus (intro _; (simp [Act.eval, Value.cells, List.getD, hs1, hcn]; done))); (focus (simp [Act.eval, Value.cells, List.getD, hs1, hcn]; done)); (exact rfl); clear hK K; clear H; (try clear w2); revert w3; intro w2 H; (try simp [Act.eval, List.getD, hs1, hcn] at H); (try simp [Value.cells, setL, hs1, hcn] at H)) | ((guard_target =~ wpList _ _ _ (Oper.mk _ (.alloc _) _ _ _ _ :: _) _ _; refine BigFrame.wpList_want rfl (fun K hK => ?_); refine o_alloc (z := ?_) rfl ?_ H rfl (fun w3 b2 he H2 => hK _ _ ?_); rotate_left 1; (focus (intro _; simp; with_reducible exact rfl))); clear hK K he; clear H; (try clear w2); revert w3; intro w2 H; (try simp [Act.eval, List.getD, hs1, hcn] at H); (try simp [Value.cells, setL, hs1, hcn] at H); (first | (clear tk0; rename Nat => b2) | (clear tk1; rename Nat => b3))) | (guard_target =~ wpList _ _ _ (Oper.mk _ (.lookup _ _ _ true) _ _ _ _ :: _) _ _; refine BigFrame.wpList_want rfl (fun K hK => ?_); refine o_segOk (m := ?_) rfl rfl rfl H ?_ (hK _ _ ?_); rotate_left 1; (repeat first | exact .head _ | apply List.Mem.tail); clear hK K) | (guard_target =~ wpList _ _ _ (Oper.mk _ (.call { callee := .builtin .len, args := _, argTypes := _ }) _ _ _ _ :: _) _ _; refine BigFrame.wpList_want rfl (fun K hK => ?_); refine o_segLen (m := ?_) rfl H ?_ (hK _ _ ?_); rotate_left 1; (repeat first | exact .head _ | apply List.Mem.tail); clear hK K)); simp only [Act.put, List.setIfInBounds_toArray, List.set_cons_succ, List.set_cons_zero, hs1, hcn]))
            go_ret
            exact ⟨by rw [HZ.out]; rfl, fun _ => (H.sub (by repeat first | exact List.Sublist.refl _ | apply List.Sublist.cons_cons | apply List.Sublist.cons)), fun h => absurd (HZ.out.symm.trans h) (by decide)⟩
          | some e =>
            obtain ⟨x, y, ho2, hmem⟩ := edge_find (es := es) (id := edge) (by rw [ho]; rfl)
            obtain rfl : e = ⟨edge, x, y⟩ := by rw [ho] at ho2; injection ho2
            have h5 := fun F w a => h3 F w a x y edge (HE.out edge x y hmem).1 (HE.out edge x y hmem).2
            rw [ho] at h2 hz
            simp only [egV, Option.isSome_some, Option.isSome_none, Bool.true_eq_false, Bool.false_eq_true, if_false] at h2 hz
            have hl40 := HLL.out hz
            have hkey : edge ∉ L.map (·.1) := by rw [← HL.out.S_]; exact getA_none.1 hs1
            have hsg : segI vs es edge = segZ vs x y := by unfold segI; rw [ho]
            have hput := fun {l : List Res} w4 H => put2_any (B := B) (w0 := w0) (w := w4) (l := l) (bx := bx) (ks := ks) (ke := ke) (cn := cn) (cp := cp) (dn := dn) (dp := dp) edge (segZ vs x y) HL.out hl40 hkey H
            have HZ := Lib.hid hz
            have HSG := Lib.hid hsg
            clear hz ho ho2 hcnt hmem hl40 hkey hsg
            have tk0 : True := trivial
            have tk1 : True := trivial
            go_wp2_with (first
              | (go_at_call 59; (with_reducible refine (h2 _ _ (by exact H.giveRd m2 f9)).mono ?_); rintro e w3 ⟨rfl, hb⟩; replace H := H.ext hb; clear hb; dsimp only)
              | (go_at_call 63; (with_reducible refine (h5 _ _ (by exact H.giveRd m4 f0)).mono ?_); rintro e w3 ⟨rfl, hb⟩; replace H := H.ext hb; clear hb; dsimp only)
              | (go_at_call 62; (replace H:Own _ _ _ (mEnd _ _ :: _) := H.front9); (replace H:Own _ _ _ (mSeg _ _ :: _) := H.front9); (replace H:Own _ _ _ (Res.grow 121 _ _ _ _ :: _) := H.front9); (replace H:Own _ _ _ (Res.grow 127 _ _ _ _ :: _) := H.front9); (replace H:Own _ _ _ (Res.cells bx _ :: _) := H.front9); (with_reducible refine (hput _ H).mono ?_); rintro e w3 ⟨rfl, Y, dn2, dp2, cn2, cp2, hY, H2⟩; replace H := H2; clear H2; have HY := Lib.hid hY; clear hY; dsimp only)
              | (guard_target =~ wpList _ _ _ (_ :: _) _ _; (first | (guard_target =~ wpList _ _ _ (Oper.mk _ (.load _ _) _ _ _ _ :: _) _ _; refine BigFrame.wpList_want rfl (fun K hK => ?_); (first | (refine o_loadC (v := ?_) (row := ?_) rfl rfl H ?_ ?_ ?_ (hK _ _ ?_); rotate_left 2; (repeat first | exact .head _ | apply List.Mem.tail); (exact rfl); (focus (intro _; simp [hs1, hcn]; done))) | (refine o_loadNC (row := ?_) rfl rfl H ?_ ?_ ?_ (hK _ _ ?_); rotate_left 1; (repeat first | exact .head _ | apply List.Mem.tail); (focus (intro _; simp [hs1, hcn]; done)); (focus (intro _; simp [hs1, hcn]; done)))); clear hK K) | (guard_target =~ wpList _ _ _ (Oper.mk _ (.store _ _ _) _ _ _ _ :: _) _ _; refine BigFrame.wpList_want rfl (fun K hK => ?_); refine o_store (l' := ?_) (row := ?_) rfl rfl H rfl ?_ ?_ ?_ ?_ (fun w3 H2 => hK _ _ ?_); rotate_left 2; (exact r0); (focus (intro _; (simp [Act.eval, Value.cells, List.getD, hs1, hcn]; done))); (focus (simp [Act.eval, Value.cells, List.getD, hs1, hcn]; done)); (exact rfl); clear hK K; clear H; (try clear w2); revert w3; intro w2 H; (try simp [Act.eval, List.getD, hs1, hcn] at H); (try simp [Value.cells, setL, hs1, hcn] at H)) | ((guard_target =~ wpList _ _ _ (Oper.mk _ (.alloc _) _ _ _ _ :: _) _ _; refine BigFrame.wpList_want rfl (fun K hK => ?_); refine o_alloc (z := ?_) rfl ?_ H rfl (fun w3 b2 he H2 => hK _ _ ?_); rotate_left 1; (focus (intro _; simp; with_reducible exact rfl))); clear hK K he; clear H; (try clear w2); revert w3; intro w2 H; (try simp [Act.eval, List.getD, hs1, hcn] at H); (try simp [Value.cells, setL, hs1, hcn] at H); (first | (clear tk0; rename Nat => b2) | (clear tk1; rename Nat => b3))) | (guard_target =~ wpList _ _ _ (Oper.mk _ (.lookup _ _ _ true) _ _ _ _ :: _) _ _; refine BigFrame.wpList_want rfl (fun K hK => ?_); refine o_segOk (m := ?_) rfl rfl rfl H ?_ (hK _ _ ?_); rotate_left 1; (repeat first | exact .head _ | apply List.Mem.tail); clear hK K) | (guard_target =~ wpList _ _ _ (Oper.mk _ (.call { callee := .builtin .len, args := _, argTypes := _ }) _ _ _ _ :: _) _ _; refine BigFrame.wpList_want rfl (fun K hK => ?_); refine o_segLen (m := ?_) rfl H ?_ (hK _ _ ?_); rotate_left 1; (repeat first | exact .head _ | apply List.Mem.tail); clear hK K)); simp only [Act.put, List.setIfInBounds_toArray, List.set_cons_succ, List.set_cons_zero, hs1, hcn]))
            go_ret
            exact ⟨by rw [HZ.out]; rfl, fun h => absurd HZ.out h, fun _ => ⟨Y, dn2, dp2, cn2, cp2, by rw [HSG.out]; exact HY.out, (H.sub (by repeat first | exact List.Sublist.refl _ | apply List.Sublist.cons_cons | apply List.Sublist.cons))⟩⟩
        · have hcn : ((q : Int) != (X.S.length : Int)) = true := by simp; omega
          have hz := add_count (vs := vs) (es := es) (S := X.S) (edge := edge) (by rw [HQ.out, hs1]; simpa using hcnt)
          have HZ := Lib.hid hz
          clear hz hcnt
          cases ho : (es.find? fun e => e.id == edge) with
          | none =>
            rw [ho] at h2
            simp only [egV, Option.isSome_none] at h2
            clear ho
            have tk0 : True := trivial
            have tk1 : True := trivial
            go_wp2_with (first
              | (go_at_call 59; (with_reducible refine (h2 _ _ (by exact H.giveRd m2 f9)).mono ?_); rintro e w3 ⟨rfl, hb⟩; replace H := H.ext hb; clear hb; dsimp only)
              | (guard_target =~ wpList _ _ _ (_ :: _) _ _; (first | (guard_target =~ wpList _ _ _ (Oper.mk _ (.load _ _) _ _ _ _ :: _) _ _; refine BigFrame.wpList_want rfl (fun K hK => ?_); (first | (refine o_loadC (v := ?_) (row := ?_) rfl rfl H ?_ ?_ ?_ (hK _ _ ?_); rotate_left 2; (repeat first | exact .head _ | apply List.Mem.tail); (exact rfl); (focus (intro _; simp [hs1, hcn]; done))) | (refine o_loadNC (row := ?_) rfl rfl H ?_ ?_ ?_ (hK _ _ ?_); rotate_left 1; (repeat first | exact .head _ | apply List.Mem.tail); (focus (intro _; simp [hs1, hcn]; done)); (focus (intro _; simp [hs1, hcn]; done)))); clear hK K) | (guard_target =~ wpList _ _ _ (Oper.mk _ (.store _ _ _) _ _ _ _ :: _) _ _; refine BigFrame.wpList_want rfl (fun K hK => ?_); refine o_store (l' := ?_) (row := ?_) rfl rfl H rfl ?_ ?_ ?_ ?_ (fun w3 H2 => hK _ _ ?_); rotate_left 2; (exact r0); (focus (intro _; (simp [Act.eval, Value.cells, List.getD, hs1, hcn]; done))); (focus (simp [Act.eval, Value.cells, List.getD, hs1, hcn]; done)); (exact rfl); clear hK K; clear H; (try clear w2); revert w3; intro w2 H; (try simp [Act.eval, List.getD, hs1, hcn] at H); (try simp [Value.cells, setL, hs1, hcn] at H)) | ((guard_target =~ wpList _ _ _ (Oper.mk _ (.alloc _) _ _ _ _ :: _) _ _; refine BigFrame.wpList_want rfl (fun K hK => ?_); refine o_alloc (z := ?_) rfl ?_ H rfl (fun w3 b2 he H2 => hK _ _ ?_); rotate_left 1; (focus (intro _; simp; with_reducible exact rfl))); clear hK K he; clear H; (try clear w2); revert w3; intro w2 H; (try simp [Act.eval, List.getD, hs1, hcn] at H); (try simp [Value.cells, setL, hs1, hcn] at H); (first | (clear tk0; rename Nat => b2) | (clear tk1; rename Nat => b3))) | (guard_target =~ wpList _ _ _ (Oper.mk _ (.lookup _ _ _ true) _ _ _ _ :: _) _ _; refine BigFrame.wpList_want rfl (fun K hK => ?_); refine o_segOk (m := ?_) rfl rfl rfl H ?_ (hK _ _ ?_); rotate_left 1; (repeat first | exact .head _ | apply List.Mem.tail); clear hK K) | (guard_target =~ wpList _ _ _ (Oper.mk _ (.call { callee := .builtin .len, args := _, argTypes := _ }) _ _ _ _ :: _) _ _; refine BigFrame.wpList_want rfl (fun K hK => ?_); refine o_segLen (m := ?_) rfl H ?_ (hK _ _ ?_); rotate_left 1; (repeat first | exact .head _ | apply List.Mem.tail); clear hK K)); simp only [Act.put, List.setIfInBounds_toArray, List.set_cons_succ, List.set_cons_zero, hs1, hcn]))
            go_ret
            exact ⟨by rw [HZ.out]; rfl, fun _ => (H.sub (by repeat first | exact List.Sublist.refl _ | apply List.Sublist.cons_cons | apply List.Sublist.cons)), fun h => absurd (HZ.out.symm.trans h) (by decide)⟩
          | some e =>
            rw [ho] at h2
            simp only [egV, Option.isSome_some] at h2
            clear ho
            have tk0 : True := trivial
            have tk1 : True := trivial
            go_wp2_with (first
              | (go_at_call 59; (with_reducible refine (h2 _ _ (by exact H.giveRd m2 f9)).mono ?_); rintro e w3 ⟨rfl, hb⟩; replace H := H.ext hb; clear hb; dsimp only)
              | (guard_target =~ wpList _ _ _ (_ :: _) _ _; (first | (guard_target =~ wpList _ _ _ (Oper.mk _ (.load _ _) _ _ _ _ :: _) _ _; refine BigFrame.wpList_want rfl (fun K hK => ?_); (first | (refine o_loadC (v := ?_) (row := ?_) rfl rfl H ?_ ?_ ?_ (hK _ _ ?_); rotate_left 2; (repeat first | exact .head _ | apply List.Mem.tail); (exact rfl); (focus (intro _; simp [hs1, hcn]; done))) | (refine o_loadNC (row := ?_) rfl rfl H ?_ ?_ ?_ (hK _ _ ?_); rotate_left 1; (repeat first | exact .head _ | apply List.Mem.tail); (focus (intro _; simp [hs1, hcn]; done)); (focus (intro _; simp [hs1, hcn]; done)))); clear hK K) | (guard_target =~ wpList _ _ _ (Oper.mk _ (.store _ _ _) _ _ _ _ :: _) _ _; refine BigFrame.wpList_want rfl (fun K hK => ?_); refine o_store (l' := ?_) (row := ?_) rfl rfl H rfl ?_ ?_ ?_ ?_ (fun w3 H2 => hK _ _ ?_); rotate_left 2; (exact r0); (focus (intro _; (simp [Act.eval, Value.cells, List.getD, hs1, hcn]; done))); (focus (simp [Act.eval, Value.cells, List.getD, hs1, hcn]; done)); (exact rfl); clear hK K; clear H; (try clear w2); revert w3; intro w2 H; (try simp [Act.eval, List.getD, hs1, hcn] at H); (try simp [Value.cells, setL, hs1, hcn] at H)) | ((guard_target =~ wpList _ _ _ (Oper.mk _ (.alloc _) _ _ _ _ :: _) _ _; refine BigFrame.wpList_want rfl (fun K hK => ?_); refine o_alloc (z := ?_) rfl ?_ H rfl (fun w3 b2 he H2 => hK _ _ ?_); rotate_left 1; (focus (intro _; simp; with_reducible exact rfl))); clear hK K he; clear H; (try clear w2); revert w3; intro w2 H; (try simp [Act.eval, List.getD, hs1, hcn] at H); (try simp [Value.cells, setL, hs1, hcn] at H); (first | (clear tk0; rename Nat => b2) | (clear tk1; rename Nat => b3))) | (guard_target =~ wpList _ _ _ (Oper.mk _ (.lookup _ _ _ true) _ _ _ _ :: _) _ _; refine BigFrame.wpList_want rfl (fun K hK => ?_); refine o_segOk (m := ?_) rfl rfl rfl H ?_ (hK _ _ ?_); rotate_left 1; (repeat first | exact .head _ | apply List.Mem.tail); clear hK K) | (guard_target =~ wpList _ _ _ (Oper.mk _ (.call { callee := .builtin .len, args := _, argTypes := _ }) _ _ _ _ :: _) _ _; refine BigFrame.wpList_want rfl (fun K hK => ?_); refine o_segLen (m := ?_) rfl H ?_ (hK _ _ ?_); rotate_left 1; (repeat first | exact .head _ | apply List.Mem.tail); clear hK K)); simp only [Act.put, List.setIfInBounds_toArray, List.set_cons_succ, List.set_cons_zero, hs1, hcn]))
            go_ret
            exact ⟨by rw [HZ.out]; rfl, fun _ => (H.sub (by repeat first | exact List.Sublist.refl _ | apply List.Sublist.cons_cons | apply List.Sublist.cons)), fun h => absurd (HZ.out.symm.trans h) (by decide)⟩
      | some s0 =>
        obtain ⟨⟨ax, ay⟩, ⟨sx, sy⟩⟩ := s0
        have hw1 : IntKind.i64.wrap ((q : Int) + 1) = (q : Int) + 1 := IntWalk.i64_in _ (by omega)
        by_cases hcnt : q + 1 = X.S.length
        · have hcn : ((q : Int) + 1 != (X.S.length : Int)) = false := by rw [← hcnt]; simp
          have hz := add_rest (S := X.S) HR.out HA.out (by rw [HQ.out, hs1]; simpa using hcnt)
          rw [hs1] at hz
          cases ho : (es.find? fun e => e.id == edge) with
          | none =>
            rw [ho] at h2 hz
            simp only [egV, Option.isSome_none, if_true] at h2 hz
            have HZ := Lib.hid hz
            clear hz ho hcnt
            have tk0 : True := trivial
            have tk1 : True := trivial
            go_wp2_with (first
              | (go_at_call 59; (with_reducible refine (h2 _ _ (by exact H.giveRd m2 f9)).mono ?_); rintro e w3 ⟨rfl, hb⟩; replace H := H.ext hb; clear hb; dsimp only)
              | (guard_target =~ wpList _ _ _ (_ :: _) _ _; (first | (guard_target =~ wpList _ _ _ (Oper.mk _ (.load _ _) _ _ _ _ :: _) _ _; refine BigFrame.wpList_want rfl (fun K hK => ?_); (first | (refine o_loadC (v := ?_) (row := ?_) rfl rfl H ?_ ?_ ?_ (hK _ _ ?_); rotate_left 2; (repeat first | exact .head _ | apply List.Mem.tail); (exact rfl); (focus (intro _; simp [hs1, hcn]; done))) | (refine o_loadNC (row := ?_) rfl rfl H ?_ ?_ ?_ (hK _ _ ?_); rotate_left 1; (repeat first | exact .head _ | apply List.Mem.tail); (focus (intro _; simp [hs1, hcn]; done)); (focus (intro _; simp [hs1, hcn]; done)))); clear hK K) | (guard_target =~ wpList _ _ _ (Oper.mk _ (.store _ _ _) _ _ _ _ :: _) _ _; refine BigFrame.wpList_want rfl (fun K hK => ?_); refine o_store (l' := ?_) (row := ?_) rfl rfl H rfl ?_ ?_ ?_ ?_ (fun w3 H2 => hK _ _ ?_); rotate_left 2; (exact r0); (focus (intro _; (simp [Act.eval, Value.cells, List.getD, hs1, hcn]; done))); (focus (simp [Act.eval, Value.cells, List.getD, hs1, hcn]; done)); (exact rfl); clear hK K; clear H; (try clear w2); revert w3; intro w2 H; (try simp [Act.eval, List.getD, hs1, hcn] at H); (try simp [Value.cells, setL, hs1, hcn] at H)) | ((guard_target =~ wpList _ _ _ (Oper.mk _ (.alloc _) _ _ _ _ :: _) _ _; refine BigFrame.wpList_want rfl (fun K hK => ?_); refine o_alloc (z := ?_) rfl ?_ H rfl (fun w3 b2 he H2 => hK _ _ ?_); rotate_left 1; (focus (intro _; simp; with_reducible exact rfl))); clear hK K he; clear H; (try clear w2); revert w3; intro w2 H; (try simp [Act.eval, List.getD, hs1, hcn] at H); (try simp [Value.cells, setL, hs1, hcn] at H); (first | (clear tk0; rename Nat => b2) | (clear tk1; rename Nat => b3))) | (guard_target =~ wpList _ _ _ (Oper.mk _ (.lookup _ _ _ true) _ _ _ _ :: _) _ _; refine BigFrame.wpList_want rfl (fun K hK => ?_); refine o_segOk (m := ?_) rfl rfl rfl H ?_ (hK _ _ ?_); rotate_left 1; (repeat first | exact .head _ | apply List.Mem.tail); clear hK K) | (guard_target =~ wpList _ _ _ (Oper.mk _ (.call { callee := .builtin .len, args := _, argTypes := _ }) _ _ _ _ :: _) _ _; refine BigFrame.wpList_want rfl (fun K hK => ?_); refine o_segLen (m := ?_) rfl H ?_ (hK _ _ ?_); rotate_left 1; (repeat first | exact .head _ | apply List.Mem.tail); clear hK K)); simp only [Act.put, List.setIfInBounds_toArray, List.set_cons_succ, List.set_cons_zero, hs1, hcn]))
            go_ret
            exact ⟨by rw [HZ.out]; rfl, fun _ => (H.sub (by repeat first | exact List.Sublist.refl _ | apply List.Sublist.cons_cons | apply List.Sublist.cons)), fun h => absurd (HZ.out.symm.trans h) (by decide)⟩
          | some e =>
            rw [ho] at h2 hz
            simp only [egV, Option.isSome_some, Bool.true_eq_false, if_false, if_true] at h2 hz
            have HZ := Lib.hid hz
            clear hz ho hcnt
            have tk0 : True := trivial
            have tk1 : True := trivial
            go_wp2_with (first
              | (go_at_call 59; (with_reducible refine (h2 _ _ (by exact H.giveRd m2 f9)).mono ?_); rintro e w3 ⟨rfl, hb⟩; replace H := H.ext hb; clear hb; dsimp only)
              | (guard_target =~ wpList _ _ _ (_ :: _) _ _; (first | (guard_target =~ wpList _ _ _ (Oper.mk _ (.load _ _) _ _ _ _ :: _) _ _; refine BigFrame.wpList_want rfl (fun K hK => ?_); (first | (refine o_loadC (v := ?_) (row := ?_) rfl rfl H ?_ ?_ ?_ (hK _ _ ?_); rotate_left 2; (repeat first | exact .head _ | apply List.Mem.tail); (exact rfl); (focus (intro _; simp [hs1, hcn]; done))) | (refine o_loadNC (row := ?_) rfl rfl H ?_ ?_ ?_ (hK _ _ ?_); rotate_left 1; (repeat first | exact .head _ | apply List.Mem.tail); (focus (intro _; simp [hs1, hcn]; done)); (focus (intro _; simp [hs1, hcn]; done)))); clear hK K) | (guard_target =~ wpList _ _ _ (Oper.mk _ (.store _ _ _) _ _ _ _ :: _) _ _; refine BigFrame.wpList_want rfl (fun K hK => ?_); refine o_store (l' := ?_) (row := ?_) rfl rfl H rfl ?_ ?_ ?_ ?_ (fun w3 H2 => hK _ _ ?_); rotate_left 2; (exact r0); (focus (intro _; (simp [Act.eval, Value.cells, List.getD, hs1, hcn]; done))); (focus (simp [Act.eval, Value.cells, List.getD, hs1, hcn]; done)); (exact rfl); clear hK K; clear H; (try clear w2); revert w3; intro w2 H; (try simp [Act.eval, List.getD, hs1, hcn] at H); (try simp [Value.cells, setL, hs1, hcn] at H)) | ((guard_target =~ wpList _ _ _ (Oper.mk _ (.alloc _) _ _ _ _ :: _) _ _; refine BigFrame.wpList_want rfl (fun K hK => ?_); refine o_alloc (z := ?_) rfl ?_ H rfl (fun w3 b2 he H2 => hK _ _ ?_); rotate_left 1; (focus (intro _; simp; with_reducible exact rfl))); clear hK K he; clear H; (try clear w2); revert w3; intro w2 H; (try simp [Act.eval, List.getD, hs1, hcn] at H); (try simp [Value.cells, setL, hs1, hcn] at H); (first | (clear tk0; rename Nat => b2) | (clear tk1; rename Nat => b3))) | (guard_target =~ wpList _ _ _ (Oper.mk _ (.lookup _ _ _ true) _ _ _ _ :: _) _ _; refine BigFrame.wpList_want rfl (fun K hK => ?_); refine o_segOk (m := ?_) rfl rfl rfl H ?_ (hK _ _ ?_); rotate_left 1; (repeat first | exact .head _ | apply List.Mem.tail); clear hK K) | (guard_target =~ wpList _ _ _ (Oper.mk _ (.call { callee := .builtin .len, args := _, argTypes := _ }) _ _ _ _ :: _) _ _; refine BigFrame.wpList_want rfl (fun K hK => ?_); refine o_segLen (m := ?_) rfl H ?_ (hK _ _ ?_); rotate_left 1; (repeat first | exact .head _ | apply List.Mem.tail); clear hK K)); simp only [Act.put, List.setIfInBounds_toArray, List.set_cons_succ, List.set_cons_zero, hs1, hcn]))
            go_ret
            exact ⟨by rw [HZ.out]; rfl, fun _ => (H.sub (by repeat first | exact List.Sublist.refl _ | apply List.Sublist.cons_cons | apply List.Sublist.cons)), fun h => absurd (HZ.out.symm.trans h) (by decide)⟩
        · have hcn : ((q : Int) + 1 != (X.S.length : Int)) = true := by simp; omega
          have hz := add_count (vs := vs) (es := es) (S := X.S) (edge := edge) (by rw [HQ.out, hs1]; simpa using hcnt)
          have HZ := Lib.hid hz
          clear hz hcnt
          cases ho : (es.find? fun e => e.id == edge) with
          | none =>
            rw [ho] at h2
            simp only [egV, Option.isSome_none] at h2
            clear ho
            have tk0 : True := trivial
            have tk1 : True := trivial
            go_wp2_with (first
              | (go_at_call 59; (with_reducible refine (h2 _ _ (by exact H.giveRd m2 f9)).mono ?_); rintro e w3 ⟨rfl, hb⟩; replace H := H.ext hb; clear hb; dsimp only)
              | (guard_target =~ wpList _ _ _ (_ :: _) _ _; (first | (guard_target =~ wpList _ _ _ (Oper.mk _ (.load _ _) _ _ _ _ :: _) _ _; refine BigFrame.wpList_want rfl (fun K hK => ?_); (first | (refine o_loadC (v := ?_) (row := ?_) rfl rfl H ?_ ?_ ?_ (hK _ _ ?_); rotate_left 2; (repeat first | exact .head _ | apply List.Mem.tail); (exact rfl); (focus (intro _; simp [hs1, hcn]; done))) | (refine o_loadNC (row := ?_) rfl rfl H ?_ ?_ ?_ (hK _ _ ?_); rotate_left 1; (repeat first | exact .head _ | apply List.Mem.tail); (focus (intro _; simp [hs1, hcn]; done)); (focus (intro _; simp [hs1, hcn]; done)))); clear hK K) | (guard_target =~ wpList _ _ _ (Oper.mk _ (.store _ _ _) _ _ _ _ :: _) _ _; refine BigFrame.wpList_want rfl (fun K hK => ?_); refine o_store (l' := ?_) (row := ?_) rfl rfl H rfl ?_ ?_ ?_ ?_ (fun w3 H2 => hK _ _ ?_); rotate_left 2; (exact r0); (focus (intro _; (simp [Act.eval, Value.cells, List.getD, hs1, hcn]; done))); (focus (simp [Act.eval, Value.cells, List.getD, hs1, hcn]; done)); (exact rfl); clear hK K; clear H; (try clear w2); revert w3; intro w2 H; (try simp [Act.eval, List.getD, hs1, hcn] at H); (try simp [Value.cells, setL, hs1, hcn] at H)) | ((guard_target =~ wpList _ _ _ (Oper.mk _ (.alloc _) _ _ _ _ :: _) _ _; refine BigFrame.wpList_want rfl (fun K hK => ?_); refine o_alloc (z := ?_) rfl ?_ H rfl (fun w3 b2 he H2 => hK _ _ ?_); rotate_left 1; (focus (intro _; simp; with_reducible exact rfl))); clear hK K he; clear H; (try clear w2); revert w3; intro w2 H; (try simp [Act.eval, List.getD, hs1, hcn] at H); (try simp [Value.cells, setL, hs1, hcn] at H); (first | (clear tk0; rename Nat => b2) | (clear tk1; rename Nat => b3))) | (guard_target =~ wpList _ _ _ (Oper.mk _ (.lookup _ _ _ true) _ _ _ _ :: _) _ _; refine BigFrame.wpList_want rfl (fun K hK => ?_); refine o_segOk (m := ?_) rfl rfl rfl H ?_ (hK _ _ ?_); rotate_left 1; (repeat first | exact .head _ | apply List.Mem.tail); clear hK K) | (guard_target =~ wpList _ _ _ (Oper.mk _ (.call { callee := .builtin .len, args := _, argTypes := _ }) _ _ _ _ :: _) _ _; refine BigFrame.wpList_want rfl (fun K hK => ?_); refine o_segLen (m := ?_) rfl H ?_ (hK _ _ ?_); rotate_left 1; (repeat first | exact .head _ | apply List.Mem.tail); clear hK K)); simp only [Act.put, List.setIfInBounds_toArray, List.set_cons_succ, List.set_cons_zero, hs1, hcn]))
            go_ret
            exact ⟨by rw [HZ.out]; rfl, fun _ => (H.sub (by repeat first | exact List.Sublist.refl _ | apply List.Sublist.cons_cons | apply List.Sublist.cons)), fun h => absurd (HZ.out.symm.trans h) (by decide)⟩
          | some e =>
            rw [ho] at h2
            simp only [egV, Option.isSome_some] at h2
            clear ho
            have tk0 : True := trivial
            have tk1 : True := trivial
            go_wp2_with (first
              | (go_at_call 59; (with_reducible refine (h2 _ _ (by exact H.giveRd m2 f9)).mono ?_); rintro e w3 ⟨rfl, hb⟩; replace H := H.ext hb; clear hb; dsimp only)
              | (guard_target =~ wpList _ _ _ (_ :: _) _ _; (first | (guard_target =~ wpList _ _ _ (Oper.mk _ (.load _ _) _ _ _ _ :: _) _ _; refine BigFrame.wpList_want rfl (fun K hK => ?_); (first | (refine o_loadC (v := ?_) (row := ?_) rfl rfl H ?_ ?_ ?_ (hK _ _ ?_); rotate_left 2; (repeat first | exact .head _ | apply List.Mem.tail); (exact rfl); (focus (intro _; simp [hs1, hcn]; done))) | (refine o_loadNC (row := ?_) rfl rfl H ?_ ?_ ?_ (hK _ _ ?_); rotate_left 1; (repeat first | exact .head _ | apply List.Mem.tail); (focus (intro _; simp [hs1, hcn]; done)); (focus (intro _; simp [hs1, hcn]; done)))); clear hK K) | (guard_target =~ wpList _ _ _ (Oper.mk _ (.store _ _ _) _ _ _ _ :: _) _ _; refine BigFrame.wpList_want rfl (fun K hK => ?_); refine o_store (l' := ?_) (row := ?_) rfl rfl H rfl ?_ ?_ ?_ ?_ (fun w3 H2 => hK _ _ ?_); rotate_left 2; (exact r0); (focus (intro _; (simp [Act.eval, Value.cells, List.getD, hs1, hcn]; done))); (focus (simp [Act.eval, Value.cells, List.getD, hs1, hcn]; done)); (exact rfl); clear hK K; clear H; (try clear w2); revert w3; intro w2 H; (try simp [Act.eval, List.getD, hs1, hcn] at H); (try simp [Value.cells, setL, hs1, hcn] at H)) | ((guard_target =~ wpList _ _ _ (Oper.mk _ (.alloc _) _ _ _ _ :: _) _ _; refine BigFrame.wpList_want rfl (fun K hK => ?_); refine o_alloc (z := ?_) rfl ?_ H rfl (fun w3 b2 he H2 => hK _ _ ?_); rotate_left 1; (focus (intro _; simp; with_reducible exact rfl))); clear hK K he; clear H; (try clear w2); revert w3; intro w2 H; (try simp [Act.eval, List.getD, hs1, hcn] at H); (try simp [Value.cells, setL, hs1, hcn] at H); (first | (clear tk0; rename Nat => b2) | (clear tk1; rename Nat => b3))) | (guard_target =~ wpList _ _ _ (Oper.mk _ (.lookup _ _ _ true) _ _ _ _ :: _) _ _; refine BigFrame.wpList_want rfl (fun K hK => ?_); refine o_segOk (m := ?_) rfl rfl rfl H ?_ (hK _ _ ?_); rotate_left 1; (repeat first | exact .head _ | apply List.Mem.tail); clear hK K) | (guard_target =~ wpList _ _ _ (Oper.mk _ (.call { callee := .builtin .len, args := _, argTypes := _ }) _ _ _ _ :: _) _ _; refine BigFrame.wpList_want rfl (fun K hK => ?_); refine o_segLen (m := ?_) rfl H ?_ (hK _ _ ?_); rotate_left 1; (repeat first | exact .head _ | apply List.Mem.tail); clear hK K)); simp only [Act.put, List.setIfInBounds_toArray, List.set_cons_succ, List.set_cons_zero, hs1, hcn]))
            go_ret
            exact ⟨by rw [HZ.out]; rfl, fun _ => (H.sub (by repeat first | exact List.Sublist.refl _ | apply List.Sublist.cons_cons | apply List.Sublist.cons)), fun h => absurd (HZ.out.symm.trans h) (by decide)⟩
end Go.Proofs.Ytlhmjhildlnokaa

/-
  The walks of the small functions of the index's statements: few, plain, awake.
-/
namespace Go.Proofs.Ytlhmjhildlnokaa
set_option linter.unusedVariables false
set_option linter.unusedSimpArgs false
open Go.RowKit Go.Sort Go.Shelf

set_option maxRecDepth 100000 in
theorem few21_any (A A2 : Option Addr) (n m c c2 : Nat) (w : World) :
    Calls Try.prog 36 #[.agg #[.slice A n c, .slice A2 m c2]] w fun e w' => e = .returned (.bool (decide (n ≤ 40) && decide (m ≤ 40))) ∧ Below w.heap.size w w' := by
  have H := Own.start w
  obtain ⟨v, hv⟩ : ∃ v, (decide (n ≤ 40) && decide (m ≤ 40)) = v := ⟨_, rfl⟩
  have HV := Lib.hid hv
  rw [hv]; clear hv
  go_enter Try.func36, Try.ntmps36
  have tk0 : True := trivial
  go_wp2_with (first
    | go_big_skip
    | (guard_target =~ wpList _ _ _ (_ :: _) _ _; (first | (guard_target =~ wpList _ _ _ (Oper.mk _ (.load _ _) _ _ _ _ :: _) _ _; refine BigFrame.wpList_want rfl (fun K hK => ?_); (refine o_loadC (v := ?_) (row := ?_) rfl rfl H ?_ ?_ ?_ (hK _ _ ?_); rotate_left 2; (repeat first | exact .head _ | apply List.Mem.tail); (exact rfl); (focus (intro _; simp; done))); clear hK K) | ((guard_target =~ wpList _ _ _ (Oper.mk _ (.box _ _) _ _ _ _ :: _) _ _; refine BigFrame.wpList_want rfl (fun K hK => ?_); refine o_box rfl H rfl (fun w3 b2 he H2 => hK _ _ ?_)); clear hK K he; clear H; (try clear w2); revert w3; intro w2 H; simp [Act.eval, Value.cells, setL, List.getD] at H; (clear tk0; rename Nat => b1))); simp only [Act.put, List.setIfInBounds_toArray, List.set_cons_succ, List.set_cons_zero]))
  all_goals
    go_ret
    exact ⟨ret_b (by rw [← HV.out, Bool.eq_iff_iff]; simp only [Bool.and_eq_true, decide_eq_true_eq, Bool.false_eq_true, false_iff]; omega), H.below⟩
set_option maxRecDepth 100000 in
theorem plain21_any (A A2 : Option Addr) (n m c c2 : Nat) (w : World) :
    Calls Try.prog 38 #[.agg #[.slice A n c, .slice A2 m c2]] w fun e w' => e = .returned (.agg #[.slice A n c, .slice A2 m c2]) ∧ Below w.heap.size w w' := by
  have H := Own.start w
  go_enter Try.func38, Try.ntmps38
  have tk0 : True := trivial
  have tk1 : True := trivial
  go_wp2_with (guard_target =~ wpList _ _ _ (_ :: _) _ _; (first | (guard_target =~ wpList _ _ _ (Oper.mk _ (.load _ _) _ _ _ _ :: _) _ _; refine BigFrame.wpList_want rfl (fun K hK => ?_); (refine o_loadC (v := ?_) (row := ?_) rfl rfl H ?_ ?_ ?_ (hK _ _ ?_); rotate_left 2; (repeat first | exact .head _ | apply List.Mem.tail); (exact rfl); (focus (intro _; simp; done))); clear hK K) | (guard_target =~ wpList _ _ _ (Oper.mk _ (.store _ _ _) _ _ _ _ :: _) _ _; refine BigFrame.wpList_want rfl (fun K hK => ?_); refine o_store (l' := ?_) (row := ?_) rfl rfl H rfl ?_ ?_ ?_ ?_ (fun w3 H2 => hK _ _ ?_); rotate_left 2; (exact r0); (focus (intro _; simp [Act.eval, Value.cells]; done)); (focus (simp [Act.eval, Value.cells]; done)); (exact rfl); clear hK K; clear H; (try clear w2); revert w3; intro w2 H; simp [Act.eval, Value.cells, setL, List.getD] at H) | ((first | (guard_target =~ wpList _ _ _ (Oper.mk _ (.alloc _) _ _ _ _ :: _) _ _; refine BigFrame.wpList_want rfl (fun K hK => ?_); refine o_alloc (z := ?_) rfl ?_ H rfl (fun w3 b2 he H2 => hK _ _ ?_); rotate_left 1; (focus (intro _; simp; with_reducible exact rfl))) | (guard_target =~ wpList _ _ _ (Oper.mk _ (.box _ _) _ _ _ _ :: _) _ _; refine BigFrame.wpList_want rfl (fun K hK => ?_); refine o_box rfl H rfl (fun w3 b2 he H2 => hK _ _ ?_))); clear hK K he; clear H; (try clear w2); revert w3; intro w2 H; simp [Act.eval, Value.cells, setL, List.getD] at H; (first | (clear tk0; rename Nat => b1) | (clear tk1; rename Nat => b2)))); simp only [Act.put, List.setIfInBounds_toArray, List.set_cons_succ, List.set_cons_zero])
  have hr := H.loadVarN (P := Try.prog) (ty := 30) m0 (by kernel_rfl) (by kernel_rfl)
  exact bodyPost_ret (v := .agg #[.slice A n c, .slice A2 m c2]) (by simp [results, Try.results38, asAddr, hr]) rfl ⟨rfl, H.below⟩
def vs21 : List Vt := [⟨1, ⟨0, 0⟩⟩, ⟨2, ⟨4, 0⟩⟩]
def es21 : List Eg := [⟨1, 1, 2⟩]
theorem vR21 : vR vs21 = [.int .i64 1, .int .i64 0, .int .i64 0, .int .i64 2, .int .i64 4, .int .i64 0] := rfl
theorem eR21 : eR es21 = [.int .i64 1, .int .i64 1, .int .i64 2] := rfl
theorem aw21_b : buildB vs21 es21 [1] = true := by decide +kernel
def sg21 : Sg := ⟨⟨0, 0⟩, ⟨4, 0⟩⟩
def X21 : PSt := roundsS 1 sg21 [0] 1 ⟨[nd0], [pc0], 0, 0⟩
def ix21 : IxS := ⟨X21.N, X21.P, [(1, sg21)], [(⟨4, 0⟩, true), (⟨0, 0⟩, true)]⟩
theorem aw21_c : crossL [pc0] [] sg21 1 = [0] := by decide +kernel
theorem aw21_s : (segsOf vs21 es21 [1]).reverse = [(1, sg21)] := by decide +kernel
theorem aw21_x {X : IxS} (I : BldI vs21 es21 [1] X) : X = ix21 := by
  have h := I.puts
  rw [aw21_s] at h
  cases h with
  | put h hid hp =>
    cases h
    obtain ⟨all, h1, h2, h3, h4, h5⟩ := hp
    have e : all = [0] := by
      have := h1.1
      rw [show ix0.P.length = 1 from rfl, show ix0.P = [pc0] from rfl, show ix0.S = [] from rfl, aw21_c] at this
      exact List.perm_singleton.1 this
    subst e
    obtain ⟨N, P, S, E⟩ := X
    simp only at h2 h3 h4 h5
    rw [h2, h3, h4, h5]
    rfl
theorem aw21_p : X21.P.length = 5 ∧ X21.N.length = 7 := by decide +kernel
theorem aw21_l : (liveT X21.P).length = 4 := by decide +kernel
theorem aw21_d : DescZ ix21.N ix21.S ⟨2, 1⟩ 3 0 (.leaf 1) := by
  refine .ptR (d := ⟨1, 0, ⟨0, 0⟩, 5, 6⟩) (m := 6) rfl rfl (by decide +kernel) rfl ?_
  refine .ptL (d := ⟨1, 0, ⟨4, 0⟩, 3, 4⟩) (m := 3) rfl rfl (by decide +kernel) rfl ?_
  refine .lnU (d := ⟨2, 1, ⟨0, 0⟩, 1, 2⟩) (m := 1) rfl rfl (by decide +kernel) rfl ?_
  exact .leaf (d := ⟨0, 1, ⟨0, 0⟩, 0, 0⟩) rfl rfl
theorem aw21_e : (getA ix21.E ⟨2, 1⟩).getD false = false := by decide +kernel
theorem aw21_ok : LeafOK ix21.N ix21.P (.leaf 1) := ⟨1, ⟨⟨0, 1, true, true, ⟨0, 0⟩, ⟨4, 0⟩⟩, 1, false⟩, rfl, rfl⟩
theorem aw21_r : spotOf ix21.N ix21.P (.leaf 1) = spV 0 1 := rfl
set_option maxRecDepth 100000 in
set_option maxHeartbeats 8000000 in
theorem awake21_any (w : World) :
    Calls Try.prog 35 #[] w fun e w' => e = .returned (.bool true) ∧ Below w.heap.size w w' := by
  have H := Own.start w
  obtain ⟨F0, hno⟩ : ∃ F0 : Nat → Prop, ∀ k, ¬ F0 k := ⟨fun _ => False, fun _ h => h⟩
  have h1 : ∀ w A A2 A3, Sl F0 w A (vR vs21) → Sl F0 w A2 (eR es21) → Sl F0 w A3 (oR [1]) → Calls Try.prog 37 #[.agg #[.slice A 2 2, .slice A2 1 1], .slice A3 1 1] w fun e w' => ∃ bx ks ke cn cp dn dp, e = .returned (.tuple #[.pointer (some ⟨bx, 0, none⟩), .int .i64 0]) ∧ Own w.heap.size w w' (xL bx ks ke cn cp dn dp ix21 []) := by
    intro w A A2 A3 h1 h2 h3
    refine (build_any vs21 es21 [1] A A2 A3 2 1 1 2 1 1 F0 w rfl rfl rfl h1 h2 h3 (fun k h => absurd h (hno k)) (by omega) (by omega) (by omega) (by unfold maxLen; omega)).mono ?_
    rintro e w' (⟨h, _⟩ | ⟨_, X, bx, ks, ke, cn, cp, dn, dp, rfl, I, H⟩)
    · rw [aw21_b] at h; cases h
    · rw [aw21_x I] at H
      exact ⟨bx, ks, ke, cn, cp, dn, dp, rfl, H⟩
  rw [vR21, eR21, show oR [1] = [.int .i64 1] from rfl] at h1
  have h2 := fun {B w0 w l bx ks ke cn cp dn dp} H => find_any (B := B) (w0 := w0) (w := w) (l := l) (bx := bx) (ks := ks) (ke := ke) (cn := cn) (cp := cp) (dn := dn) (dp := dp) (x := 2) (y := 1) (by decide) aw21_e aw21_d aw21_ok (by decide +kernel) (by decide +kernel) H
  rw [aw21_r] at h2
  have h3 := fun {B w0 w l bx ks ke cn cp dn dp} H => tall_any (B := B) (w0 := w0) (w := w) (l := l) (bx := bx) (ks := ks) (ke := ke) (cn := cn) (cp := cp) (dn := dn) (dp := dp) (n := ix21.N.length) (P := ix21.P) rfl (by decide +kernel) H
  have h4 : ∀ (k : Nat) L, k = L.length → AllP ix21.P L → ((k : Int) == 4) = true := fun k L hk h => by rw [hk, h.1.length_eq.trans aw21_l]; rfl
  go_enter Try.func35, Try.ntmps35
  have tk0 : True := trivial
  have tk1 : True := trivial
  have tk2 : True := trivial
  have tk3 : True := trivial
  have tk4 : True := trivial
  go_wp2_with (first
    | (go_at_call 37; (with_reducible refine (h1 _ _ _ _ (H.giveCells m3 (fun k h => absurd h (hno k)) 0 rfl) (H.giveCells m2 (fun k h => absurd h (hno k)) 0 rfl) (H.giveCells m0 (fun k h => absurd h (hno k)) 0 rfl)).mono ?_); rintro e w3 ⟨bx, ks, ke, cn, cp, dn, dp, rfl, H2⟩; replace H := H.join H2 rfl; clear H2; simp only [xL, List.cons_append, List.nil_append] at H; dsimp only)
    | (go_at_call 41; (replace H:Own _ _ _ (mEnd _ _ :: _) := H.front4); (replace H:Own _ _ _ (mSeg _ _ :: _) := H.front4); (replace H:Own _ _ _ (Res.grow 121 _ _ _ _ :: _) := H.front4); (replace H:Own _ _ _ (Res.grow 127 _ _ _ _ :: _) := H.front4); (replace H:Own _ _ _ (Res.cells bx _ :: _) := H.front4); (with_reducible refine (h2 H).mono ?_); rintro e w3 ⟨rfl, H2⟩; replace H := H2; clear H2; dsimp only)
    | (go_at_call 40; (replace H:Own _ _ _ (Res.grow 121 _ _ _ _ :: _) := H.front3); (replace H:Own _ _ _ (Res.cells bx _ :: _) := H.front2); (with_reducible refine (h3 H).mono ?_); rintro e w3 ⟨A9, k9, c9, L9, rfl, hk9, hA9, H2⟩; replace H := H2; clear H2; have hk4 := h4 _ _ hk9 hA9; clear hk9; dsimp only)
    | (guard_target =~ wpList _ _ _ (_ :: _) _ _; (first | (guard_target =~ wpList _ _ _ (Oper.mk _ (.load _ _) _ _ _ _ :: _) _ _; refine BigFrame.wpList_want rfl (fun K hK => ?_); (first | (refine o_loadC (v := ?_) (row := ?_) rfl rfl H ?_ ?_ ?_ (hK _ _ ?_); rotate_left 2; (repeat first | exact .head _ | apply List.Mem.tail); (exact rfl); (focus (intro _; simp; done))) | (refine o_loadNC (row := ?_) rfl rfl H ?_ ?_ ?_ (hK _ _ ?_); rotate_left 1; (repeat first | exact .head _ | apply List.Mem.tail); (focus (intro _; simp; done)); (focus (intro _; simp; done)))); clear hK K) | (guard_target =~ wpList _ _ _ (Oper.mk _ (.store _ _ _) _ _ _ _ :: _) _ _; refine BigFrame.wpList_want rfl (fun K hK => ?_); refine o_store (l' := ?_) (row := ?_) rfl rfl H rfl ?_ ?_ ?_ ?_ (fun w3 H2 => hK _ _ ?_); rotate_left 2; (exact r0); (focus (intro _; simp [Act.eval, Value.cells]; done)); (focus (simp [Act.eval, Value.cells]; done)); (exact rfl); clear hK K; clear H; (try clear w2); revert w3; intro w2 H; simp [Act.eval, Value.cells, setL, List.getD] at H) | ((first | (guard_target =~ wpList _ _ _ (Oper.mk _ (.alloc _) _ _ _ _ :: _) _ _; refine BigFrame.wpList_want rfl (fun K hK => ?_); refine o_alloc (z := ?_) rfl ?_ H rfl (fun w3 b2 he H2 => hK _ _ ?_); rotate_left 1; (focus (intro _; simp; with_reducible exact rfl))) | (guard_target =~ wpList _ _ _ (Oper.mk _ (.buildSlice _ _ _) _ _ _ _ :: _) _ _; refine BigFrame.wpList_want rfl (fun K hK => ?_); refine o_buildSlice (C := ?_) (E := ?_) rfl rfl H ?_ rfl (fun w3 b2 he H2 => hK _ _ ?_); rotate_left 2; (focus (intro _; simp [go_sem, Instr.buildSlice]; with_reducible exact rfl)))); clear hK K he; clear H; (try clear w2); revert w3; intro w2 H; simp [Act.eval, Value.cells, setL, List.getD] at H; (first | (clear tk0; rename Nat => b1) | (clear tk1; rename Nat => b2) | (clear tk2; rename Nat => b5) | (clear tk3; rename Nat => b6) | (clear tk4; rename Nat => b7)))); simp only [Act.put, List.setIfInBounds_toArray, List.set_cons_succ, List.set_cons_zero]))
  go_ret
  exact ⟨rfl, H.below⟩
end Go.Proofs.Ytlhmjhildlnokaa

/-
  The walks of croftlaw21's Order and same.
-/
namespace Go.Proofs.Ytlhmjhildlnokaa
set_option linter.unusedVariables false
set_option linter.unusedSimpArgs false
open Go.RowKit Go.Sort Go.Shelf

def uR (l : List Int) : List Value := l.map (Value.int .u8)
theorem uR_get {l : List Int} {j : Nat} {x : Int} (h : l[j]? = some x) : (uR l)[j]? = some (.int .u8 x) := by simp [uR, h]
theorem oR_len (l : List Int) : (oR l).length = l.length := by simp [oR]
theorem oR_app (l m : List Int) : oR (l ++ m) = oR l ++ oR m := by simp [oR]
theorem oR_one (x : Int) : oR [x] = [.int .i64 x] := rfl
theorem oR_set (l : List Int) (i : Nat) (x : Int) : (oR l).set i (.int .i64 x) = oR (l.set i x) := by simp [oR]
theorem oR_at {l : List Int} {j : Nat} {x : Int} (h : l[j]? = some x) : ((oR l).drop j).take 1 = [.int .i64 x] := by
  obtain ⟨h1, h2⟩ := List.getElem?_eq_some_iff.1 (oR_get h)
  rw [List.drop_eq_getElem_cons h1, h2]; rfl
theorem set_self {l : List Int} {a : Nat} {x : Int} (ha : l[a]? = some x) : l.set a x = l := by
  apply List.ext_getElem?
  intro i
  rw [List.getElem?_set]
  split
  · rename_i h; subst h; split
    · exact ha.symm
    · rename_i h; exact absurd (List.getElem?_eq_some_iff.1 ha).1 h
  · rfl
theorem swap_perm {l : List Int} {a b : Nat} {x y : Int} (ha : l[a]? = some x) (hb : l[b]? = some y) : ((l.set a y).set b x).Perm l := by
  by_cases hxy : x = y
  · subst hxy
    rw [set_self ha, set_self hb]
  · have e : a ≠ b := by
      rintro rfl
      rw [ha] at hb
      injection hb with hb
      exact hxy hb
    have hal := (List.getElem?_eq_some_iff.1 ha).1
    have hbl := (List.getElem?_eq_some_iff.1 hb).1
    rw [List.perm_iff_count]
    intro z
    rw [List.count_set (by simpa using hbl), List.count_set hal]
    have e1 : (l.set a y)[b]'(by simpa using hbl) = y := by
      rw [List.getElem_set_ne e]
      exact (List.getElem?_eq_some_iff.1 hb).2
    rw [e1, (List.getElem?_eq_some_iff.1 ha).2]
    have c1 : x = z → 0 < l.count z := fun h => List.count_pos_iff.2 (by rw [← h]; exact List.mem_of_getElem? ha)
    have c2 : y = z → 0 < l.count z := fun h => List.count_pos_iff.2 (by rw [← h]; exact List.mem_of_getElem? hb)
    by_cases h1 : x = z
    · have h2 : y ≠ z := fun h => hxy (h1.trans h.symm)
      have := c1 h1
      simp [h1, h2]; omega
    · by_cases h2 : y = z
      · have := c2 h2
        simp [h1, h2]
      · simp [h1, h2]
theorem setL_one (row : List Value) (i : Nat) (v : Value) : setL row i [v] = row.set i v := rfl
theorem ids_step {es : List Eg} {j : Nat} {i x y : Int} (h : es[j]? = some ⟨i, x, y⟩) : (es.take (j + 1)).map (·.id) = (es.take j).map (·.id) ++ [i] := by
  rw [List.take_add_one, h]; simp
set_option maxRecDepth 100000 in
set_option maxHeartbeats 16000000 in
theorem order21_any (vs : List Vt) (es : List Eg) (tu : List Int) (A A2 A3 : Option Addr) (n m q : Nat) (c c2 c3 : Nat) (F : Nat → Prop) (w : World) (hm : m = es.length) (hq : q = tu.length) (hs2 : Sl F w A2 (eR es)) (hs3 : Sl F w A3 (uR tu)) (hu : ∀ t ∈ tu, 0 ≤ t ∧ t < 256) (hl2 : m ≤ 40) (hlq : q ≤ 100) :
    Calls Try.prog 39 #[.agg #[.slice A n c, .slice A2 m c2], .slice A3 q c3] w fun e w' => ∃ B9 k c9 os, e = .returned (.slice B9 k c9) ∧ k = os.length ∧ os.Perm (es.map (·.id)) ∧ Own w.heap.size w w' [.grow 3 1 (.slice B9 k c9) k (oR os)] := by
  obtain ⟨b9, o9, H1, f9⟩ := (Own.start w).addSl (hs2.ro (by rfl))
  obtain ⟨b8, o8, H, f8⟩ := H1.addSl (hs3.ro (by rfl))
  clear hs2 hs3 H1
  have HM := Lib.hid hm
  have HQ := Lib.hid hq
  have HU := Lib.hid hu
  clear hm hq hu
  go_enter Try.func39, Try.ntmps39
  have tk0 : True := trivial
  go_wp2_with (guard_target =~ wpList _ _ _ (_ :: _) _ _; ((guard_target =~ wpList _ _ _ (Oper.mk _ (.box _ _) _ _ _ _ :: _) _ _; refine BigFrame.wpList_want rfl (fun K hK => ?_); refine o_box rfl H rfl (fun w3 b2 he H2 => hK _ _ ?_)); clear hK K he; clear H; (try clear w2); revert w3; intro w2 H; simp [Act.eval, Value.cells, setL, List.getD] at H; (clear tk0; rename Nat => b1)); simp only [Act.put, List.setIfInBounds_toArray, List.set_cons_succ, List.set_cons_zero])
  have H := H.grow_nil 3 1
  go_loopg [6, 5] m (fun k i u wr => k ≤ m ∧ i = .int .i64 ((m - k : Nat) : Int) ∧ Own w.heap.size w wr [.grow 3 1 u (m - k) (oR ((es.take (m - k)).map (·.id))), .cells b1 [.slice A n c, .slice A2 m c2], .rd A3 b8 o8 (uR tu), .rd A2 b9 o9 (eR es)])
  case atStart => exact ⟨Nat.le_refl _, by simp, by rw [Nat.sub_self]; exact H⟩
  case round =>
    clear H
    obtain ⟨hk, rfl, H⟩ := hrel
    by_cases hlt : 0 < gk
    · obtain ⟨j, hj⟩ : ∃ j, m - gk = j := ⟨_, rfl⟩
      have hjl : j < m := by omega
      rw [hj] at H ⊢
      obtain ⟨i, x, y, he⟩ := eg_at es (by have := HM.out; omega : j < es.length)
      obtain rfl := H.rdAddr m3 (eR_pos he)
      have hp : (Res.rd (some ⟨b9, o9, none⟩) b9 o9 (eR es)).at b9 (o9 + j * 3) [.int .i64 i] := at_rdN (by
        have := flatN_sub (f := fun e : Eg => t3 e.id e.a e.b) (k := 3) (fun _ => rfl) he 0 1 (by omega)
        exact this)
      have hst := ids_step he
      generalize (es.take j).map (·.id) = D at H hst
      have HST := Lib.hid hst
      have HJ := Lib.hid hj
      clear he hst hj
      go_wp2_with (guard_target =~ wpList _ _ _ (_ :: _) _ _; (first | (guard_target =~ wpList _ _ _ (Oper.mk _ (.call { callee := .builtin .append, args := _, argTypes := _ }) _ _ _ _ :: _) _ _; refine BigFrame.wpList_want rfl (fun K hK => ?_); refine o_append (row := ?_) (n := ?_) (xs := ?_) (l' := ?_) infoIt rfl rfl rfl H ?_ rfl ?_ ?_ (by kernel_rfl) rfl (by decide) ?_ ?_ ?_ (fun v2 w3 H2 hn => hK _ _ ?_); rotate_left 4; (repeat first | exact .head _ | apply List.Mem.tail); (focus (simp; done)); (focus (intro _; (exact r1))); exact rfl; exact (by unfold maxLen; omega); exact (by omega); clear hK K hn; clear H; (try clear w2); revert w3; intro w2 H; simp only [List.take_succ_cons, List.take_zero, Nat.one_mul] at H) | (guard_target =~ wpList _ _ _ (Oper.mk _ (.load _ _) _ _ _ _ :: _) _ _; refine BigFrame.wpList_want rfl (fun K hK => ?_); (first | (refine o_load (v := ?_) (r := ?_) rfl rfl H ?_ ?_ ?_ (hK _ _ ?_); rotate_left 2; (with_reducible assumption); (repeat first | exact .head _ | apply List.Mem.tail); (focus (intro _; simp; done))) | (refine o_loadC (v := ?_) (row := ?_) rfl rfl H ?_ ?_ ?_ (hK _ _ ?_); rotate_left 2; (repeat first | exact .head _ | apply List.Mem.tail); (exact rfl); (focus (intro _; simp; done)))); clear hK K) | ((guard_target =~ wpList _ _ _ (Oper.mk _ (.buildSlice _ _ _) _ _ _ _ :: _) _ _; refine BigFrame.wpList_want rfl (fun K hK => ?_); refine o_buildSlice (C := ?_) (E := ?_) rfl rfl H ?_ rfl (fun w3 b2 he H2 => hK _ _ ?_); rotate_left 2; (focus (intro _; simp [go_sem, Instr.buildSlice]; with_reducible exact rfl))); clear hK K he; clear H; (try clear w2); revert w3; intro w2 H; simp [Act.eval, Value.cells, setL, List.getD] at H)); simp only [Act.put, List.setIfInBounds_toArray, List.set_cons_succ, List.set_cons_zero])
      go_roundg (gk - 1)
      case rel =>
        have e := show m - (gk - 1) = j + 1 by have := HJ.out; omega
        exact ⟨by omega, by rw [e]; simp, by rw [e, HST.out, oR_app, oR_one]; exact (H.sub (by repeat first | exact List.Sublist.refl _ | apply List.Sublist.cons_cons | apply List.Sublist.cons))⟩
      case measure => omega
    · obtain rfl : gk = 0 := by omega
      rw [Nat.sub_zero, List.take_of_length_le (by have := HM.out; omega)] at H
      rw [Nat.sub_zero] at *
      obtain ⟨A5, c5, rfl⟩ := H.growForm m0
      go_wp2_with (guard_target =~ wpList _ _ _ (_ :: _) _ _; (guard_target =~ wpList _ _ _ (Oper.mk _ (.load _ _) _ _ _ _ :: _) _ _; refine BigFrame.wpList_want rfl (fun K hK => ?_); (refine o_loadC (v := ?_) (row := ?_) rfl rfl H ?_ ?_ ?_ (hK _ _ ?_); rotate_left 2; (repeat first | exact .head _ | apply List.Mem.tail); (exact rfl); (focus (intro _; simp; done))); clear hK K); simp only [Act.put, List.setIfInBounds_toArray, List.set_cons_succ, List.set_cons_zero])
      go_loopg [7] q (fun k i wr => k ≤ q ∧ i = .int .i64 ((q - k : Nat) : Int) ∧ ∃ os, os.Perm (es.map (·.id)) ∧ Own w.heap.size w wr [.grow 3 1 (.slice A5 m c5) m (oR os), .cells b1 [.slice A n c, .slice A2 m c2], .rd A3 b8 o8 (uR tu), .rd A2 b9 o9 (eR es)])
      case atStart => exact ⟨Nat.le_refl _, by simp, _, .refl _, H⟩
      case round =>
        clear H
        obtain ⟨hk, rfl, os, hos, H⟩ := hrel
        have hol : os.length = m := by rw [hos.length_eq, List.length_map]; exact HM.out.symm
        by_cases hlt2 : 0 < gk
        · obtain ⟨j, hj⟩ : ∃ j, q - gk = j := ⟨_, rfl⟩
          have hjl : j < q := by omega
          rw [hj]
          by_cases hm0 : 0 < m
          · obtain ⟨t, ht⟩ : ∃ x, tu[j]? = some x := ⟨_, List.getElem?_eq_getElem (by have := HQ.out; omega)⟩
            have htb := HU.out t (List.mem_of_getElem? ht)
            obtain rfl := H.rdAddr m2 (Nat.lt_of_le_of_lt (Nat.zero_le _) (List.getElem?_eq_some_iff.1 (uR_get ht)).1)
            have hp := at_rd (A := some ⟨b8, o8, none⟩) (b := b8) (off := o8) (uR_get ht)
            obtain ⟨t', rfl⟩ : ∃ t' : Nat, t = (t' : Int) := ⟨t.toNat, by omega⟩
            obtain ⟨a, ha⟩ : ∃ a, j % m = a := ⟨_, rfl⟩
            obtain ⟨b, hb⟩ : ∃ a, t' % m = a := ⟨_, rfl⟩
            have hma : (j : Int) % (m : Int) = (a : Int) := by rw [← ha]; exact Int.natCast_emod _ _
            have hmb : (t' : Int) % (m : Int) = (b : Int) := by rw [← hb]; exact Int.natCast_emod _ _
            have hal : a < m := by rw [← ha]; exact Nat.mod_lt _ hm0
            have hbl : b < m := by rw [← hb]; exact Nat.mod_lt _ hm0
            obtain ⟨x, hx⟩ : ∃ x, os[a]? = some x := ⟨_, List.getElem?_eq_getElem (by omega)⟩
            obtain ⟨y, hy⟩ : ∃ x, os[b]? = some x := ⟨_, List.getElem?_eq_getElem (by omega)⟩
            obtain ⟨d5, c5', he⟩ := H.growSome m0 hm0 (by decide)
            injection he with hA h1 h2
            subst hA
            clear h1 h2
            have hpa : (Res.grow 3 1 (.slice (some ⟨d5, 0, none⟩) m c5) m (oR os)).at d5 a [.int .i64 x] := at_grow (oR_at hx)
            have hpb : (Res.grow 3 1 (.slice (some ⟨d5, 0, none⟩) m c5) m (oR os)).at d5 b [.int .i64 y] := at_grow (oR_at hy)
            have hlen : (oR os).length = m := by rw [oR_len]; exact hol
            have HPM := Lib.hid (swap_perm hx hy)
            have HOS := Lib.hid hos
            have HJ := Lib.hid hj
            clear ht ha hb hx hy hos hj hol
            go_wp2_with (first
              | (guard_target =~ Code.wp _ (Code.region 9 _ true) _ _ _; refine region_treeC0 9 (G := True) (.q 0 (.q 1 (.q 2 (.q 3 (.q 4 (.q 5 (.q 6 (.q 7 (.q 8 (.q 9 (.q 10 (.q 11 (.q 12 (.q 13 .nil)))))))))))))) (by kernel_rfl) (by intro c a d v w h; cases d <;> first | exact h | exact hQ h) (by kernel_rfl) H ⟨trivial⟩ (fun _ w3 H2 => ?_); (clear H; (try clear w2); revert w3; intro w2 H))
              | (guard_target =~ wpList _ _ _ (_ :: _) _ _; (first | (guard_target =~ wpList _ _ _ (Oper.mk _ (.load _ _) _ _ _ _ :: _) _ _; refine BigFrame.wpList_want rfl (fun K hK => ?_); (refine o_load (v := ?_) (r := ?_) rfl rfl H ?_ ?_ ?_ (hK _ _ ?_); rotate_left 2; (with_reducible assumption); (repeat first | exact .head _ | apply List.Mem.tail); (focus (intro _; simp [hma, hmb, hlen]; done))); clear hK K) | (guard_target =~ wpList _ _ _ (Oper.mk _ (.store _ _ _) _ _ _ _ :: _) _ _; refine BigFrame.wpList_want rfl (fun K hK => ?_); (refine o_storeG (e := ?_) (size := ?_) (n := ?_) (cap := ?_) (xs := ?_) (l' := ?_) rfl rfl H rfl ?_ ?_ ?_ ?_ (fun w3 H2 => hK _ _ ?_); rotate_left 6; (exact r0); (focus (intro _; (simp [Act.eval, Value.cells, List.getD, hma, hmb, hlen]; done))); (focus ((try simp [Act.eval, Value.cells]); omega)); (exact rfl); clear hK K; clear H; (try clear w2); revert w3; intro w2 H; (try simp [Act.eval, List.getD, hma, hmb, hlen] at H); (try simp [Value.cells, setL, hma, hmb, hlen] at H)))); simp only [Act.put, List.setIfInBounds_toArray, List.set_cons_succ, List.set_cons_zero, hma, hmb, hlen])
              | (guard_target =~ wpTreeC _ _ _ _ _ _ _; first | (guard_target =~ wpTreeC _ _ _ (Tr.e _ Tr.nil) _ _ _; refine treeC_last (by decide +kernel) H rfl rfl (fun w3 H2 K hK => ?_); clear H; (try clear w2); (revert w3; intro w2 H); simp only [List.getElem_toArray, List.getElem_cons_succ, List.getElem_cons_zero]; (first | fail); simp only [Act.put, List.setIfInBounds_toArray, List.set_cons_succ, List.set_cons_zero, hma, hmb, hlen]) | (guard_target =~ wpTreeC _ _ _ (Tr.q _ _) _ _ _; first | (refine treeC_quiet ⟨_, H, by repeat first | exact .here | apply Suf.there⟩ rfl rfl rfl (fun K hK => ?_); simp only [List.getElem_toArray, List.getElem_cons_succ, List.getElem_cons_zero]; first | (guard_target =~ Oper.quiet _ (Oper.mk _ (.load _ _) _ _ _ _) _ _ _; (refine q_load (v := ?_) (r := ?_) rfl rfl ?_ ?_ ?_ (hK _ ?_); rotate_left 2; (with_reducible assumption); (repeat first | exact .head _ | apply List.Mem.tail); (focus (intro _; simp [hma, hmb, hlen]; done))); clear hK K; simp only [Act.put, List.setIfInBounds_toArray, List.set_cons_succ, List.set_cons_zero, hma, hmb, hlen]) | (go_big_quiet_op; (try refine ⟨_, fun _ _ => rfl, ?_⟩); refine hK _ ?_; clear hK K)) | (refine treeC_call (v := ?_) ⟨_, H, by repeat first | exact .here | apply Suf.there⟩ rfl rfl (fun w3 H K hK => ?_) ?_; rotate_left 1; (focus (simp only [List.getElem_toArray, List.getElem_cons_succ, List.getElem_cons_zero]; first | (go_big_op; first | exact hK _ (Ext.refl _)))); simp only [List.getElem_toArray, List.getElem_cons_succ, List.getElem_cons_zero, Act.put, List.setIfInBounds_toArray, List.set_cons_succ, List.set_cons_zero, hma, hmb, hlen]) | (refine treeC_skip ⟨_, H, by repeat first | exact .here | apply Suf.there⟩ rfl rfl ?_; simp only [List.getElem_toArray, List.getElem_cons_succ, List.getElem_cons_zero, Act.put, List.setIfInBounds_toArray, List.set_cons_succ, List.set_cons_zero, hma, hmb, hlen])) | (guard_target =~ wpTreeC _ _ _ (Tr.both _ _) _ _ _; refine treeC_both ?_ ?_) | (guard_target =~ wpTreeC _ _ _ (Tr.e _ _) _ _ _; first | (refine treeC_one H rfl rfl (fun w3 H2 K hK => ?_); clear H; (try clear w2); (revert w3; intro w2 H); simp only [List.getElem_toArray, List.getElem_cons_succ, List.getElem_cons_zero]; first | ((first | fail); simp only [Act.put, List.setIfInBounds_toArray, List.set_cons_succ, List.set_cons_zero, hma, hmb, hlen]) | (go_big_op; (first | fail))) | (refine treeC_one_skip (fun w3 hx => ⟨_, H.ext hx, by repeat first | exact .here | apply Suf.there⟩) rfl rfl (fun w3 hx => ?_); replace H := H.ext hx; clear hx; (try clear w2); revert w3; intro w2 H; simp only [List.getElem_toArray, List.getElem_cons_succ, List.getElem_cons_zero, Act.put, List.setIfInBounds_toArray, List.set_cons_succ, List.set_cons_zero, hma, hmb, hlen])) | (guard_target =~ wpTreeC _ _ _ Tr.nil _ _ _; refine treeC_nil H (fun w3 H2 => ?_); clear H; (try clear w2); revert w3; intro w2 H)))
            go_roundg (gk - 1)
            case rel =>
              have e := show q - (gk - 1) = j + 1 by have := HJ.out; omega
              exact ⟨by omega, by rw [e]; simp, _, HPM.out.trans HOS.out, by rw [← oR_set, ← oR_set]; exact (H.sub (by repeat first | exact List.Sublist.refl _ | apply List.Sublist.cons_cons | apply List.Sublist.cons))⟩
            case measure => omega
          · obtain rfl : m = 0 := by omega
            have HOS := Lib.hid hos
            have HOL := Lib.hid hol
            clear hos hol hj
            go_wp2_with (first | fail)
            go_ret
            exact ⟨A5, 0, c5, os, rfl, HOL.out.symm, HOS.out, (H.sub (by repeat first | exact List.Sublist.refl _ | apply List.Sublist.cons_cons | apply List.Sublist.cons))⟩
        · obtain rfl : gk = 0 := by omega
          have HOS := Lib.hid hos
          have HOL := Lib.hid hol
          clear hos hol
          rw [Nat.sub_zero]
          go_wp2_with (first | fail)
          go_ret
          exact ⟨A5, m, c5, os, rfl, HOL.out.symm, HOS.out, (H.sub (by repeat first | exact List.Sublist.refl _ | apply List.Sublist.cons_cons | apply List.Sublist.cons))⟩
end Go.Proofs.Ytlhmjhildlnokaa

/-
  An index into which a plan's edges are put one by one: what is known of it.
-/
namespace Go.Proofs.Ytlhmjhildlnokaa
set_option linter.unusedVariables false
set_option linter.unusedSimpArgs false
open Go.RowKit Go.Sort Go.Shelf

/-- The lines of the first j edges, the last one first. -/
def oneL (vs : List Vt) (es : List Eg) (j : Nat) : List (Int × Sg) := ((es.take j).map fun e => (e.id, segZ vs e.a e.b)).reverse
theorem RightP.take {vs : List Vt} {es : List Eg} (H : RightP vs es) (j : Nat) : RightP vs (es.take j) :=
  ⟨⟨H.few.1, by rw [List.length_take]; have := H.few.2; omega⟩, H.verts, fun e he => H.each e (List.mem_of_mem_take he), H.two.sublist (List.take_sublist j es)⟩
theorem rightB_P {vs : List Vt} {es : List Eg} (H : RightP vs es) : rightB vs es = true := by rw [right_same]; exact (right_iff vs es).2 H
theorem oneL_len (vs : List Vt) (es : List Eg) {j : Nat} (h : j ≤ es.length) : (oneL vs es j).length = j := by
  unfold oneL; rw [List.length_reverse, List.length_map, List.length_take]; omega
theorem oneL_keys (vs : List Vt) (es : List Eg) (j : Nat) : (oneL vs es j).map (·.1) = ((es.take j).map (·.id)).reverse := by
  unfold oneL; rw [List.map_reverse, List.map_map]; rfl
theorem oneL_succ {vs : List Vt} {es : List Eg} {j : Nat} {e : Eg} (h : es[j]? = some e) : oneL vs es (j + 1) = (e.id, segZ vs e.a e.b) :: oneL vs es j := by
  unfold oneL; rw [List.take_add_one, h]; simp
theorem oneL_all (vs : List Vt) (es : List Eg) : (oneL vs es es.length).Perm (edgeL vs es) := by
  unfold oneL edgeL; rw [List.take_length]; exact List.reverse_perm _
theorem oneL_plan {vs : List Vt} {es : List Eg} (H : RightP vs es) (j : Nat) : OfPlan vs es (oneL vs es j) := by
  refine ⟨?_, fun q hq => ?_⟩
  · rw [oneL_keys]
    have := (ids_nodup (H.take j))
    exact ((List.reverse_perm _).nodup_iff).2 this
  · unfold oneL at hq
    rw [List.mem_reverse] at hq
    obtain ⟨e, he, rfl⟩ := List.mem_map.1 hq
    exact ⟨e, List.mem_of_mem_take he, rfl⟩
theorem one_new {es : List Eg} {vs : List Vt} (H : RightP vs es) {j : Nat} {e : Eg} (h : es[j]? = some e) : ∀ f ∈ es.take j, f.id ≠ e.id := by
  have hn := ids_nodup (H.take (j + 1))
  rw [ids_step (i := e.id) (x := e.a) (y := e.b) h] at hn
  have := (List.nodup_append.1 hn).2.2
  intro f hf he
  exact this f.id (List.mem_map.2 ⟨f, hf, rfl⟩) e.id (by simp) he
theorem one_add {vs : List Vt} {es : List Eg} (H : RightP vs es) {j : Nat} {e : Eg} (h : es[j]? = some e) : addZ vs (es.take (j + 1)) (oneL vs es j) e.id = 0 ∧ segI vs (es.take (j + 1)) e.id = segZ vs e.a e.b := by
  have hm : e ∈ es.take (j + 1) := by rw [List.take_add_one, h]; simp
  have hf := find_edge (H.take (j + 1)) hm
  have hjl : j < es.length := (List.getElem?_eq_some_iff.1 h).1
  have hnone : getA (oneL vs es j) e.id = none := by
    rw [getA_none, oneL_keys, List.mem_reverse]
    intro g
    obtain ⟨f, hf, he⟩ := List.mem_map.1 g
    exact one_new H h f hf he
  have hall : (es.take (j + 1)).all (hasE vs (oneL vs es j) e.id) = true := by
    rw [List.all_eq_true]
    intro f hf
    rw [List.take_add_one, h] at hf
    rcases List.mem_append.1 hf with hf | hf
    · unfold hasE
      have : getA (oneL vs es j) f.id = some (segZ vs f.a f.b) := by
        rw [getA_some (oneL_plan H j).keys]
        unfold oneL
        rw [List.mem_reverse]
        exact List.mem_map.2 ⟨f, hf, rfl⟩
      rw [this]; simp
    · simp at hf
      unfold hasE
      rw [hf]; simp
  have hoth : othersN (es.take (j + 1)) e.id = j := by
    rw [others_step h]
    unfold othersN
    have : (es.take j).countP (fun f => !(f.id == e.id)) = (es.take j).length := by
      rw [List.countP_eq_length]
      intro f hf
      simpa using one_new H h f hf
    rw [this, List.length_take]
    simp; omega
  constructor
  · unfold addZ
    rw [rightB_P (H.take (j + 1)), hall, hoth, hnone, oneL_len vs es (by omega), hf]
    simp
  · unfold segI
    rw [hf]
theorem one_ti {vs : List Vt} {es : List Eg} (H : RightP vs es) {Z : IxS} {j : Nat} (I : PutsR (oneL vs es j) Z) : TI (oneL vs es j) Z.N Z.P := I.ti H (oneL_plan H j)
/-- Built at once or one by one, in any order: the same trapezes. -/
theorem one_same {vs : List Vt} {es : List Eg} {os : List Int} {X Z : IxS} (H : RightP vs es) (hp : os.Perm (es.map (·.id))) (I : BldI vs es os X) (J : PutsR (oneL vs es es.length) Z) {l l' : List Tz} (a : AllP X.P l) (a' : AllP Z.P l') : l = l' :=
  allP_same (I.ti H) (one_ti H J) ((segs_perm H (ordP_of H hp)).trans (oneL_all vs es).symm) a a'
theorem two_same {vs : List Vt} {es : List Eg} {os os' : List Int} {X Y : IxS} (H : RightP vs es) (hp : os.Perm (es.map (·.id))) (hp' : os'.Perm (es.map (·.id))) (I : BldI vs es os X) (J : BldI vs es os' Y) : (segsOf vs es os).reverse.Perm (segsOf vs es os').reverse :=
  (segs_perm H (ordP_of H hp)).trans (segs_perm H (ordP_of H hp')).symm
theorem two_all {vs : List Vt} {es : List Eg} {os os' : List Int} {X Y : IxS} (H : RightP vs es) (hp : os.Perm (es.map (·.id))) (hp' : os'.Perm (es.map (·.id))) (I : BldI vs es os X) (J : BldI vs es os' Y) {l l' : List Tz} (a : AllP X.P l) (a' : AllP Y.P l') : l = l' :=
  allP_same (I.ti H) (J.ti H) (two_same H hp hp' I J) a a'
end Go.Proofs.Ytlhmjhildlnokaa

/-
  Resources: several as one; many blocks, one of which is taken out. Nothing of the program stands here.
-/
namespace Go.Proofs.Ytlhmjhildlnokaa
set_option linter.unusedVariables false
open Go.RowKit
variable {B : Nat} {w0 w w' : World} {l l' m : List Res}

abbrev Res.ap (r r' : Res) : Prop := (r.ro = true ∧ r'.ro = true) ∨ ∀ k, r.foot k → ¬ r'.foot k
/-- Several resources as one. -/
def packP (m : List Res) (w : World) : Prop := (∀ r ∈ m, r.holds w) ∧ m.Pairwise Res.ap
def packR (m : List Res) : Res := .any false (fun k => ∃ r ∈ m, r.foot k) (packP m)
theorem Own.pack (H : Own B w0 w (m ++ l)) (hm : ∀ r ∈ m, r.ro = false) : Own B w0 w (packR m :: l) := by
  have hp := List.pairwise_append.1 H.apart
  refine ⟨H.below, H.base, fun r hr => ?_, fun r hr k hk => ?_, .cons (fun r' hr' => .inr fun k hk => ?_) hp.2.1⟩
  · rcases List.mem_cons.1 hr with rfl | hr
    · intro w' hw'
      exact ⟨fun r hr => Res.holds_stable (H.holds r (List.mem_append_left _ hr)) fun k hk => hw' k ⟨r, hr, hk⟩, hp.1⟩
    · exact H.holds r (List.mem_append_right _ hr)
  · rcases List.mem_cons.1 hr with rfl | hr
    · obtain ⟨r, hr, hk⟩ := hk
      have := H.lt r (List.mem_append_left _ hr) k hk
      exact ⟨this.1, fun _ => this.2 (hm r hr)⟩
    · exact H.lt r (List.mem_append_right _ hr) k hk
  · obtain ⟨r, hr, hk⟩ := hk
    rcases hp.2.2 r hr r' hr' with h | h
    · rw [hm r hr] at h; cases h.1
    · exact h k hk
theorem Own.unpack (H : Own B w0 w (packR m :: l)) (hm : ∀ r ∈ m, r.ro = false) : Own B w0 w (m ++ l) := by
  have hP : packP m w := H.holds _ m0 w fun _ _ => rfl
  have ha := List.pairwise_cons.1 H.apart
  refine ⟨H.below, H.base, fun r hr => ?_, fun r hr k hk => ?_, List.pairwise_append.2 ⟨hP.2, ha.2, fun r hr r' hr' => .inr fun k hk => ?_⟩⟩
  · rcases List.mem_append.1 hr with hr | hr
    · exact hP.1 r hr
    · exact H.holds r (List.mem_cons_of_mem _ hr)
  · rcases List.mem_append.1 hr with hr' | hr'
    · have := H.lt _ m0 k ⟨r, hr', hk⟩
      exact ⟨this.1, fun _ => this.2 rfl⟩
    · exact H.lt r (List.mem_cons_of_mem _ hr') k hk
  · rcases ha.1 r' hr' with h | h
    · cases h.1
    · exact h k ⟨r, hr, hk⟩
theorem Own.rot2 {x y z : Res} (H : Own B w0 w (x :: y :: z :: l)) : Own B w0 w (y :: z :: x :: l) := H.perm (List.Perm.trans (l₂ := y :: x :: z :: l) (.cons _ (.swap _ _ _)) (.swap _ _ _))
theorem Own.rot2' {x y z : Res} (H : Own B w0 w (y :: z :: x :: l)) : Own B w0 w (x :: y :: z :: l) := H.perm (List.Perm.trans (l₂ := y :: x :: z :: l) (.swap _ _ _) (.cons _ (.swap _ _ _)))
/-- One of many to the front. -/
theorem perm_pull {x : Res} (k L1 L2 l : List Res) : (x :: (k ++ (L1 ++ L2 ++ l))).Perm (k ++ (L1 ++ x :: L2 ++ l)) := by
  have h1 : (k ++ (L1 ++ x :: L2 ++ l)).Perm (k ++ (x :: (L1 ++ L2 ++ l))) := by
    refine List.Perm.append_left _ ?_
    simp only [List.append_assoc, List.cons_append]
    exact List.perm_middle
  exact (h1.trans List.perm_middle).symm
theorem perm_split {α β : Type} {f : α → β} {l : List α} {b : β} {r : List β} (h : (l.map f).Perm (b :: r)) : ∃ L1 a L2, l = L1 ++ a :: L2 ∧ f a = b ∧ ((L1 ++ L2).map f).Perm r := by
  have hb : b ∈ l.map f := h.mem_iff.2 (by simp)
  obtain ⟨a, ha, rfl⟩ := List.mem_map.1 hb
  obtain ⟨L1, L2, rfl⟩ := List.append_of_mem ha
  refine ⟨L1, a, L2, rfl, rfl, ?_⟩
  have h2 : ((L1 ++ a :: L2).map f).Perm (f a :: (L1 ++ L2).map f) := by
    simp only [List.map_append, List.map_cons]; exact List.perm_middle
  exact (List.perm_cons _).1 (h2.symm.trans h)
end Go.Proofs.Ytlhmjhildlnokaa

/-
  Whole indices as one resource: what the index's functions do to them.
-/
namespace Go.Proofs.Ytlhmjhildlnokaa
set_option linter.unusedVariables false
set_option linter.unusedSimpArgs false
open Go.RowKit Go.Sort Go.Shelf

abbrev IX (bx ks ke cn cp dn dp : Nat) (X : IxS) : Res := packR (xL bx ks ke cn cp dn dp X [])
theorem ix_ro {bx ks ke cn cp dn dp : Nat} {X : IxS} : ∀ r ∈ xL bx ks ke cn cp dn dp X [], r.ro = false := by
  intro r hr
  simp only [xL, List.mem_cons, List.not_mem_nil, or_false] at hr
  rcases hr with rfl | rfl | rfl | rfl | rfl <;> rfl
section
variable {B : Nat} {w0 w : World} {l : List Res} {bx ks ke cn cp dn dp : Nat} {X : IxS} {vs : List Vt} {es : List Eg} {os : List Int}
theorem Own.shut (H : Own B w0 w (xL bx ks ke cn cp dn dp X l)) : Own B w0 w (IX bx ks ke cn cp dn dp X :: l) := Own.pack (m := xL bx ks ke cn cp dn dp X []) (l := l) H ix_ro
theorem Own.open_ (H : Own B w0 w (IX bx ks ke cn cp dn dp X :: l)) : Own B w0 w (xL bx ks ke cn cp dn dp X l) := Own.unpack (m := xL bx ks ke cn cp dn dp X []) (l := l) H ix_ro
theorem xfindK (HR : RightP vs es) (I : BldI vs es os X) (h40 : os.length ≤ 40) (x y : Int) (H : Own B w0 w (IX bx ks ke cn cp dn dp X :: l)) :
    Calls Try.prog 41 #[.pointer (some ⟨bx, 0, none⟩), pV x y] w fun e w' => ∃ s1 s2 f, e = .returned (.tuple #[spV s1 s2, .int .i64 f]) ∧ FindP vs es os X ⟨x, y⟩ s1 s2 f ∧ Own B w0 w' (IX bx ks ke cn cp dn dp X :: l) := by
  refine (xfind_any HR I h40 x y H.open_).mono ?_
  rintro e w' ⟨s1, s2, f, h1, h2, h3⟩
  exact ⟨s1, s2, f, h1, h2, h3.shut⟩
theorem tallK (hP : X.P.length ≤ 1000000) (H : Own B w0 w (IX bx ks ke cn cp dn dp X :: l)) :
    Calls Try.prog 40 #[.pointer (some ⟨bx, 0, none⟩)] w fun e w' => ∃ A k c L, e = .returned (.slice A k c) ∧ k = L.length ∧ AllP X.P L ∧ Own B w0 w' (.grow 73 8 (.slice A k c) k (tR L) :: IX bx ks ke cn cp dn dp X :: l) := by
  refine (tall_any (l := nG dn X.N.length cn X.N :: mSeg ks X.S :: mEnd ke X.E :: l) rfl hP (H.open_.perm (.cons _ (.swap _ _ _)))).mono ?_
  rintro e w' ⟨A, k, c, L, h1, h2, h3, h4⟩
  refine ⟨A, k, c, L, h1, h2, h3, ?_⟩
  have h5 : Own B w0 w' (xL bx ks ke cn cp dn dp X (.grow 73 8 (.slice A k c) k (tR L) :: l)) := h4.perm (by
    refine List.Perm.trans ?_ (List.Perm.cons _ (List.Perm.cons _ (List.Perm.swap _ _ _)))
    exact List.perm_middle (l₁ := [xB bx ks ke X.N.length X.P.length cn cp dn dp, nG dn X.N.length cn X.N, pG dp X.P.length cp X.P, mSeg ks X.S, mEnd ke X.E]))
  exact h5.shut.swap
theorem lenK (H : Own B w0 w (IX bx ks ke cn cp dn dp X :: l)) :
    Calls Try.prog 46 #[.pointer (some ⟨bx, 0, none⟩)] w fun e w' => e = .returned (.int .i64 (X.S.length : Int)) ∧ Own B w0 w' (IX bx ks ke cn cp dn dp X :: l) := by
  have h0 : Own B w0 w (xB bx ks ke X.N.length X.P.length cn cp dn dp :: mSeg ks X.S :: nG dn X.N.length cn X.N :: pG dp X.P.length cp X.P :: mEnd ke X.E :: l) := H.open_.perm (.cons _ (List.perm_middle (l₁ := [nG dn X.N.length cn X.N, pG dp X.P.length cp X.P])).symm)
  refine (xlen_any h0).mono ?_
  rintro e w' ⟨h1, h2⟩
  have h3 : Own B w0 w' (xL bx ks ke cn cp dn dp X l) := h2.perm (.cons _ (List.perm_middle (l₁ := [nG dn X.N.length cn X.N, pG dp X.P.length cp X.P])))
  exact ⟨h1, h3.shut⟩
/-- The same, wherever the index stands. -/
theorem tallM (hP : X.P.length ≤ 1000000) (H : Own B w0 w l) (hm : IX bx ks ke cn cp dn dp X ∈ l) :
    Calls Try.prog 40 #[.pointer (some ⟨bx, 0, none⟩)] w fun e w' => ∃ A k c L, e = .returned (.slice A k c) ∧ k = L.length ∧ AllP X.P L ∧ Own B w0 w' (.grow 73 8 (.slice A k c) k (tR L) :: l) := by
  obtain ⟨l1, l2, rfl⟩ := List.append_of_mem hm
  refine (tallK hP (H.perm List.perm_middle.symm)).mono ?_
  rintro e w' ⟨A, k, c, L, h1, h2, h3, h4⟩
  exact ⟨A, k, c, L, h1, h2, h3, h4.perm (.cons _ List.perm_middle)⟩
theorem lenM (H : Own B w0 w l) (hm : IX bx ks ke cn cp dn dp X ∈ l) :
    Calls Try.prog 46 #[.pointer (some ⟨bx, 0, none⟩)] w fun e w' => e = .returned (.int .i64 (X.S.length : Int)) ∧ Own B w0 w' l := by
  obtain ⟨l1, l2, rfl⟩ := List.append_of_mem hm
  refine (lenK (H.perm List.perm_middle.symm)).mono ?_
  rintro e w' ⟨h1, h4⟩
  exact ⟨h1, h4.perm List.perm_middle⟩
theorem flat_take {α : Type} {f : α → List Value} {k : Nat} (hf : ∀ a, (f a).length = k) : ∀ (l : List α) (j : Nat), (l.flatMap f).take (j * k) = (l.take j).flatMap f
  | [], j => by simp
  | a :: l, 0 => by simp
  | a :: l, j + 1 => by
    rw [List.flatMap_cons, List.take_succ_cons, List.flatMap_cons, ← flat_take hf l j, List.take_append, hf, Nat.succ_mul, List.take_of_length_le (by rw [hf]; omega)]
    congr 2
    omega
theorem fw_ix {F : Nat → Prop} : ∀ k, FW F (xL bx ks ke cn cp dn dp X l) k → FW F (IX bx ks ke cn cp dn dp X :: l) k := by
  rintro k (h | ⟨r, hr, hro, hk⟩)
  · exact .inl h
  · right
    simp only [xL, List.mem_cons] at hr
    rcases hr with h | h | h | h | h | hr
    · exact ⟨_, List.mem_cons_self .., rfl, r, by simp [xL, h], hk⟩
    · exact ⟨_, List.mem_cons_self .., rfl, r, by simp [xL, h], hk⟩
    · exact ⟨_, List.mem_cons_self .., rfl, r, by simp [xL, h], hk⟩
    · exact ⟨_, List.mem_cons_self .., rfl, r, by simp [xL, h], hk⟩
    · exact ⟨_, List.mem_cons_self .., rfl, r, by simp [xL, h], hk⟩
    · exact ⟨r, List.mem_cons_of_mem _ hr, hro, hk⟩
/-- One more edge. -/
theorem addK {j : Nat} {i x y : Int} {A A2 : Option Addr} {n m c c2 : Nat} {F : Nat → Prop} (HR : RightP vs es) (he : es[j]? = some ⟨i, x, y⟩) (I : PutsR (oneL vs es j) X) (hn : n = vs.length) (hm : m = es.length) (hl : n ≤ 1000000) (hl2 : m ≤ 40) (hc2 : m ≤ c2) (hcc : c2 ≤ maxLen)
    (H : Own B w0 w (IX bx ks ke cn cp dn dp X :: l)) (hs : Sl (FW F (IX bx ks ke cn cp dn dp X :: l)) w A (vR vs)) (hs2 : Sl (FW F (IX bx ks ke cn cp dn dp X :: l)) w A2 (eR es)) :
    Calls Try.prog 44 #[.pointer (some ⟨bx, 0, none⟩), .agg #[.slice A n c, .slice A2 (j + 1) c2], .int .i64 i] w fun e w' => e = .returned (.int .i64 0) ∧ ∃ Y dn' dp' cn' cp', PutsR (oneL vs es (j + 1)) Y ∧ Own B w0 w' (IX bx ks ke cn' cp' dn' dp' Y :: l) := by
  have hjl : j < es.length := (List.getElem?_eq_some_iff.1 he).1
  obtain ⟨h0, h9⟩ := one_add HR he
  have hS : X.S = oneL vs es j := I.S_
  have hlen : (oneL vs es j).length = j := oneL_len vs es (by omega)
  have h1 := hs2.take ((j + 1) * 3)
  have h2 : (eR es).take ((j + 1) * 3) = eR (es.take (j + 1)) := flat_take (f := fun e : Eg => t3 e.id e.a e.b) (k := 3) (fun _ => rfl) es (j + 1)
  rw [h2] at h1
  refine (add_any vs (es.take (j + 1)) i A A2 n (j + 1) c c2 F hn (by rw [List.length_take]; omega) I (fun _ => by omega) (by rw [hS]; omega) H.open_ (hs.fewer fw_ix) (h1.fewer fw_ix) hl (by omega) (by omega) hcc).mono ?_
  rintro e w' ⟨h3, _, h4⟩
  rw [hS] at h3 h4
  simp only at h0 h9
  rw [h0] at h3 h4
  obtain ⟨Y, dn', dp', cn', cp', h5, h6⟩ := h4 rfl
  rw [h9] at h5
  exact ⟨h3, Y, dn', dp', cn', cp', by rw [oneL_succ he]; exact h5, h6.shut⟩
theorem one_sizes {Z : IxS} {j : Nat} (I : PutsR (oneL vs es j) Z) (hj : j ≤ es.length) (h40 : j ≤ 40) : Z.P.length ≤ 1000000 := by
  have e := oneL_len vs es hj
  have h1 := (I.ixN (by rw [e]; exact h40)).pl
  rw [e] at h1
  omega
end
/-- An index without edges. -/
theorem build_nil {vs : List Vt} {es : List Eg} (HR : RightP vs es) (A : Option Addr) (n c : Nat) (hn : n = vs.length) (hl : n ≤ 1000000) (w : World) (hs : Sl (fun _ => False) w A (vR vs)) :
    Calls Try.prog 37 #[.agg #[.slice A n c, .slice none 0 0], .slice none 0 0] w fun e w' => ∃ Z bx ks ke cn cp dn dp, e = .returned (.tuple #[.pointer (some ⟨bx, 0, none⟩), .int .i64 0]) ∧ PutsR (oneL vs es 0) Z ∧ Own w.heap.size w w' [IX bx ks ke cn cp dn dp Z] := by
  refine (build_yesR (rightB_P (HR.take 0)) [] A none none n 0 0 c 0 0 hn rfl rfl hl (by omega) (by omega) (by decide) w (by simp) hs (by exact Sl.nil_ _ _ _) (Sl.nil_ _ _ _)).mono ?_
  rintro e w' ⟨Z, bx, ks, ke, cn, cp, dn, dp, h1, h2, h3⟩
  exact ⟨Z, bx, ks, ke, cn, cp, dn, dp, h1, h2.puts, h3.shut⟩
end Go.Proofs.Ytlhmjhildlnokaa

/-
  The walk of croftlaw21's same, at two slices of one list of trapezes.
-/
namespace Go.Proofs.Ytlhmjhildlnokaa
set_option linter.unusedVariables false
set_option linter.unusedSimpArgs false
open Go.RowKit

theorem t_at {A : Option Addr} {L : List Tz} {j bb off : Nat} {tp bt lx ly rx ry : Int} {hl hr : Bool} (h : L[j]? = some ⟨tp, bt, hl, hr, ⟨lx, ly⟩, ⟨rx, ry⟩⟩) : (Res.rd A bb off (tR L)).at bb (off + j * 8) [.int .i64 tp, .int .i64 bt, .bool hl, .bool hr, .int .i64 lx, .int .i64 ly, .int .i64 rx, .int .i64 ry] := at_rdN (flatN_at (f := tz8) (k := 8) (fun _ => rfl) L j _ h)
set_option maxRecDepth 100000 in
set_option maxHeartbeats 8000000 in
theorem same21_any (L : List Tz) (A A2 : Option Addr) (n c c2 : Nat) (F : Nat → Prop) (w : World) (hn : n = L.length) (hs : Sl F w A (tR L)) (hs2 : Sl F w A2 (tR L)) (hl : n ≤ 1000000) :
    Calls Try.prog 45 #[.slice A n c, .slice A2 n c2] w fun e w' => e = .returned (.bool true) ∧ Below w.heap.size w w' := by
  obtain ⟨b0, o0, H1, f0⟩ := (Own.start w).addSl (hs.ro (by rfl))
  obtain ⟨b9, o9, H, f9⟩ := H1.addSl (hs2.ro (by rfl))
  clear hs hs2 H1
  have HN := Lib.hid hn
  clear hn
  have hg := eqTz_guard
  go_enter Try.func45, Try.ntmps45
  go_wp2_with (first
    | go_big_skip
    | (guard_target =~ Code.wp _ (Code.region 6 _ true) _ _ _; refine region_treeC0 6 (G := True) (.q 0 (.q 1 (.q 2 (.q 3 (.q 4 (.q 5 (.q 6 (.q 7 (.q 8 .nil))))))))) (by kernel_rfl) (by intro c a d v w h; cases d <;> first | exact h | exact hQ h) (by kernel_rfl) H ⟨trivial⟩ (fun _ w3 H2 => ?_); (clear H; (try clear w2); revert w3; intro w2 H))
    | (guard_target =~ wpList _ _ _ (_ :: _) _ _; (first | (guard_target =~ wpList _ _ _ (Oper.mk _ (.load _ _) _ _ _ _ :: _) _ _; refine BigFrame.wpList_want rfl (fun K hK => ?_); (first | (refine o_load (v := ?_) (r := ?_) rfl rfl H ?_ ?_ ?_ (hK _ _ ?_); rotate_left 2; (with_reducible assumption); (repeat first | exact .head _ | apply List.Mem.tail); (focus (intro _; simp; done))) | (refine o_loadC (v := ?_) (row := ?_) rfl rfl H ?_ ?_ ?_ (hK _ _ ?_); rotate_left 2; (repeat first | exact .head _ | apply List.Mem.tail); (first | exact rfl | with_reducible assumption); (focus (intro _; simp; done))) | (refine o_loadN (cs := ?_) (r := ?_) rfl rfl H ?_ ?_ ?_ ?_ (hK _ _ ?_); rotate_left 2; (with_reducible assumption); (repeat first | exact .head _ | apply List.Mem.tail); (focus (intro _; simp; done)); (focus (intro _; simp; done))) | (refine o_loadNC (row := ?_) rfl rfl H ?_ ?_ ?_ (hK _ _ ?_); rotate_left 1; (repeat first | exact .head _ | apply List.Mem.tail); (focus (intro _; simp; done)); (focus (intro _; simp; done)))); clear hK K) | (guard_target =~ wpList _ _ _ (Oper.mk _ (.store _ _ _) _ _ _ _ :: _) _ _; refine BigFrame.wpList_want rfl (fun K hK => ?_); refine o_store (l' := ?_) (row := ?_) rfl rfl H rfl ?_ ?_ ?_ ?_ (fun w3 H2 => hK _ _ ?_); rotate_left 2; (first | exact r0 | exact r1 | exact r2 | exact r3 | exact r4 | exact r5 | exact r6 | exact r7 | exact r8 | exact r9 | exact r10 | exact r11 | exact r12 | exact r13 | exact r14 | exact r15); (focus (intro _; simp [Act.eval, Value.cells]; done)); (focus (first | (simp [Act.eval, Value.cells]; done) | ((try simp [Act.eval, Value.cells]); omega))); (first | exact rfl | (focus (simp [Act.eval, Value.cells]; done))); clear hK K; clear H; (try clear w2); revert w3; intro w2 H; simp [Act.eval, Value.cells, setL, List.getD] at H) | ((first | (guard_target =~ wpList _ _ _ (Oper.mk _ (.alloc _) _ _ _ _ :: _) _ _; refine BigFrame.wpList_want rfl (fun K hK => ?_); refine o_alloc (z := ?_) rfl ?_ H rfl (fun w3 b2 he H2 => hK _ _ ?_); rotate_left 1; (focus (intro _; simp; with_reducible exact rfl))) | (guard_target =~ wpList _ _ _ (Oper.mk _ (.box _ _) _ _ _ _ :: _) _ _; refine BigFrame.wpList_want rfl (fun K hK => ?_); refine o_box rfl H rfl (fun w3 b2 he H2 => hK _ _ ?_)) | (guard_target =~ wpList _ _ _ (Oper.mk _ (.buildSlice _ _ _) _ _ _ _ :: _) _ _; refine BigFrame.wpList_want rfl (fun K hK => ?_); refine o_buildSlice (C := ?_) (E := ?_) rfl rfl H ?_ rfl (fun w3 b2 he H2 => hK _ _ ?_); rotate_left 2; (focus (intro _; simp [go_sem, Instr.buildSlice]; with_reducible exact rfl)))); clear hK K he; clear H; (try clear w2); revert w3; intro w2 H; simp [Act.eval, Value.cells, setL, List.getD] at H)); simp only [Act.put, List.setIfInBounds_toArray, List.set_cons_succ, List.set_cons_zero])
    | (guard_target =~ wpTreeC _ _ _ _ _ _ _; first | (guard_target =~ wpTreeC _ _ _ (Tr.e _ Tr.nil) _ _ _; refine treeC_last (by decide +kernel) H rfl rfl (fun w3 H2 K hK => ?_); clear H; (try clear w2); (revert w3; intro w2 H); simp only [List.getElem_toArray, List.getElem_cons_succ, List.getElem_cons_zero]; (first | (guard_target =~ Oper.wp _ (Oper.mk _ (.store _ _ _) _ _ _ _) _ _ _ _; refine o_store (l' := ?_) (row := ?_) rfl rfl H rfl ?_ ?_ ?_ ?_ (fun w3 H2 => hK _ _ ?_); rotate_left 2; (first | exact r0 | exact r1 | exact r2 | exact r3 | exact r4 | exact r5 | exact r6 | exact r7 | exact r8 | exact r9 | exact r10 | exact r11 | exact r12 | exact r13 | exact r14 | exact r15); (focus (intro _; simp [Act.eval, Value.cells]; done)); (focus (first | (simp [Act.eval, Value.cells]; done) | ((try simp [Act.eval, Value.cells]); omega))); (first | exact rfl | (focus (simp [Act.eval, Value.cells]; done))); clear hK K; clear H; (try clear w2); revert w3; intro w2 H; simp [Act.eval, Value.cells, setL, List.getD] at H) | (guard_target =~ Oper.wp _ (Oper.mk _ (.load _ _) _ _ _ _) _ _ _ _; (first | (refine o_load (v := ?_) (r := ?_) rfl rfl H ?_ ?_ ?_ (hK _ _ ?_); rotate_left 2; (with_reducible assumption); (repeat first | exact .head _ | apply List.Mem.tail); (focus (intro _; simp; done))) | (refine o_loadC (v := ?_) (row := ?_) rfl rfl H ?_ ?_ ?_ (hK _ _ ?_); rotate_left 2; (repeat first | exact .head _ | apply List.Mem.tail); (first | exact rfl | with_reducible assumption); (focus (intro _; simp; done))) | (refine o_loadN (cs := ?_) (r := ?_) rfl rfl H ?_ ?_ ?_ ?_ (hK _ _ ?_); rotate_left 2; (with_reducible assumption); (repeat first | exact .head _ | apply List.Mem.tail); (focus (intro _; simp; done)); (focus (intro _; simp; done))) | (refine o_loadNC (row := ?_) rfl rfl H ?_ ?_ ?_ (hK _ _ ?_); rotate_left 1; (repeat first | exact .head _ | apply List.Mem.tail); (focus (intro _; simp; done)); (focus (intro _; simp; done)))); clear hK K) | ((first | (guard_target =~ Oper.wp _ (Oper.mk _ (.alloc _) _ _ _ _) _ _ _ _; refine o_alloc (z := ?_) rfl ?_ H rfl (fun w3 b2 he H2 => hK _ _ ?_); rotate_left 1; (focus (intro _; simp; with_reducible exact rfl))) | (guard_target =~ Oper.wp _ (Oper.mk _ (.box _ _) _ _ _ _) _ _ _ _; refine o_box rfl H rfl (fun w3 b2 he H2 => hK _ _ ?_)) | (guard_target =~ Oper.wp _ (Oper.mk _ (.buildSlice _ _ _) _ _ _ _) _ _ _ _; refine o_buildSlice (C := ?_) (E := ?_) rfl rfl H ?_ rfl (fun w3 b2 he H2 => hK _ _ ?_); rotate_left 2; (focus (intro _; simp [go_sem, Instr.buildSlice]; with_reducible exact rfl)))); clear hK K he; clear H; (try clear w2); revert w3; intro w2 H; simp [Act.eval, Value.cells, setL, List.getD] at H)); simp only [Act.put, List.setIfInBounds_toArray, List.set_cons_succ, List.set_cons_zero]) | (guard_target =~ wpTreeC _ _ _ (Tr.q _ _) _ _ _; first | (refine treeC_quiet ⟨_, H, by repeat first | exact .here | apply Suf.there⟩ rfl rfl rfl (fun K hK => ?_); simp only [List.getElem_toArray, List.getElem_cons_succ, List.getElem_cons_zero]; first | (guard_target =~ Oper.quiet _ (Oper.mk _ (.load _ _) _ _ _ _) _ _ _; (first | (refine q_load (v := ?_) (r := ?_) rfl rfl ?_ ?_ ?_ (hK _ ?_); rotate_left 2; (with_reducible assumption); (repeat first | exact .head _ | apply List.Mem.tail); (focus (intro _; simp; done))) | (refine q_loadC (v := ?_) (row := ?_) rfl rfl ?_ ?_ ?_ (hK _ ?_); rotate_left 2; (repeat first | exact .head _ | apply List.Mem.tail); (first | exact rfl | with_reducible assumption); (focus (intro _; simp; done))) | (refine q_loadN (cs := ?_) (r := ?_) rfl rfl ?_ ?_ ?_ ?_ (hK _ ?_); rotate_left 2; (with_reducible assumption); (repeat first | exact .head _ | apply List.Mem.tail); (focus (intro _; simp; done)); (focus (intro _; simp; done))) | (refine q_loadNC (row := ?_) rfl rfl ?_ ?_ ?_ (hK _ ?_); rotate_left 1; (repeat first | exact .head _ | apply List.Mem.tail); (focus (intro _; simp; done)); (focus (intro _; simp; done)))); clear hK K; simp only [Act.put, List.setIfInBounds_toArray, List.set_cons_succ, List.set_cons_zero]) | (go_big_quiet_op; (try refine ⟨_, fun _ _ => rfl, ?_⟩); refine hK _ ?_; clear hK K)) | (refine treeC_call (v := ?_) ⟨_, H, by repeat first | exact .here | apply Suf.there⟩ rfl rfl (fun w3 H K hK => ?_) ?_; rotate_left 1; (focus (simp only [List.getElem_toArray, List.getElem_cons_succ, List.getElem_cons_zero]; first | (go_big_op; first | exact hK _ (Ext.refl _)))); simp only [List.getElem_toArray, List.getElem_cons_succ, List.getElem_cons_zero, Act.put, List.setIfInBounds_toArray, List.set_cons_succ, List.set_cons_zero]) | (refine treeC_skip ⟨_, H, by repeat first | exact .here | apply Suf.there⟩ rfl rfl ?_; simp only [List.getElem_toArray, List.getElem_cons_succ, List.getElem_cons_zero, Act.put, List.setIfInBounds_toArray, List.set_cons_succ, List.set_cons_zero])) | (guard_target =~ wpTreeC _ _ _ (Tr.both _ _) _ _ _; refine treeC_both ?_ ?_) | (guard_target =~ wpTreeC _ _ _ (Tr.e _ _) _ _ _; first | (refine treeC_one H rfl rfl (fun w3 H2 K hK => ?_); clear H; (try clear w2); (revert w3; intro w2 H); simp only [List.getElem_toArray, List.getElem_cons_succ, List.getElem_cons_zero]; first | ((first | (guard_target =~ Oper.wp _ (Oper.mk _ (.store _ _ _) _ _ _ _) _ _ _ _; refine o_store (l' := ?_) (row := ?_) rfl rfl H rfl ?_ ?_ ?_ ?_ (fun w3 H2 => hK _ _ ⟨_, H2, ?_⟩ ?_); rotate_left 2; (first | exact r0 | exact r1 | exact r2 | exact r3 | exact r4 | exact r5 | exact r6 | exact r7 | exact r8 | exact r9 | exact r10 | exact r11 | exact r12 | exact r13 | exact r14 | exact r15); (focus (intro _; simp [Act.eval, Value.cells]; done)); (focus (first | (simp [Act.eval, Value.cells]; done) | ((try simp [Act.eval, Value.cells]); omega))); (first | exact rfl | (focus (simp [Act.eval, Value.cells]; done))); (first | (guard_target =~ Suf _ _; repeat first | exact .here | apply Suf.there) | (rotate_left; repeat first | exact .here | apply Suf.there)); clear hK K; clear H; (try clear w2); revert w3; intro w2 H; simp [Act.eval, Value.cells, setL, List.getD] at H) | (guard_target =~ Oper.wp _ (Oper.mk _ (.load _ _) _ _ _ _) _ _ _ _; (first | (refine o_load (v := ?_) (r := ?_) rfl rfl H ?_ ?_ ?_ (hK _ _ ⟨_, H, by repeat first | exact .here | apply Suf.there⟩ ?_); rotate_left 2; (with_reducible assumption); (repeat first | exact .head _ | apply List.Mem.tail); (focus (intro _; simp; done))) | (refine o_loadC (v := ?_) (row := ?_) rfl rfl H ?_ ?_ ?_ (hK _ _ ⟨_, H, by repeat first | exact .here | apply Suf.there⟩ ?_); rotate_left 2; (repeat first | exact .head _ | apply List.Mem.tail); (first | exact rfl | with_reducible assumption); (focus (intro _; simp; done))) | (refine o_loadN (cs := ?_) (r := ?_) rfl rfl H ?_ ?_ ?_ ?_ (hK _ _ ⟨_, H, by repeat first | exact .here | apply Suf.there⟩ ?_); rotate_left 2; (with_reducible assumption); (repeat first | exact .head _ | apply List.Mem.tail); (focus (intro _; simp; done)); (focus (intro _; simp; done))) | (refine o_loadNC (row := ?_) rfl rfl H ?_ ?_ ?_ (hK _ _ ⟨_, H, by repeat first | exact .here | apply Suf.there⟩ ?_); rotate_left 1; (repeat first | exact .head _ | apply List.Mem.tail); (focus (intro _; simp; done)); (focus (intro _; simp; done)))); clear hK K) | ((first | (guard_target =~ Oper.wp _ (Oper.mk _ (.alloc _) _ _ _ _) _ _ _ _; refine o_alloc (z := ?_) rfl ?_ H rfl (fun w3 b2 he H2 => hK _ _ ⟨_, H2, ?_⟩ ?_); rotate_left 1; (focus (intro _; simp; with_reducible exact rfl))) | (guard_target =~ Oper.wp _ (Oper.mk _ (.box _ _) _ _ _ _) _ _ _ _; refine o_box rfl H rfl (fun w3 b2 he H2 => hK _ _ ⟨_, H2, ?_⟩ ?_)) | (guard_target =~ Oper.wp _ (Oper.mk _ (.buildSlice _ _ _) _ _ _ _) _ _ _ _; refine o_buildSlice (C := ?_) (E := ?_) rfl rfl H ?_ rfl (fun w3 b2 he H2 => hK _ _ ⟨_, H2, ?_⟩ ?_); rotate_left 2; (focus (intro _; simp [go_sem, Instr.buildSlice]; with_reducible exact rfl)))); (first | (guard_target =~ Suf _ _; repeat first | exact .here | apply Suf.there) | (rotate_left; repeat first | exact .here | apply Suf.there)); clear hK K he; clear H; (try clear w2); revert w3; intro w2 H; simp [Act.eval, Value.cells, setL, List.getD] at H)); simp only [Act.put, List.setIfInBounds_toArray, List.set_cons_succ, List.set_cons_zero]) | (go_big_op; (first | (refine hK _ _ ⟨_, H, by repeat first | exact .here | apply Suf.there⟩ ?_; clear hK K; (try simp only [Act.put, List.setIfInBounds_toArray, List.set_cons_succ, List.set_cons_zero])) | skip))) | (refine treeC_one_skip (fun w3 hx => ⟨_, H.ext hx, by repeat first | exact .here | apply Suf.there⟩) rfl rfl (fun w3 hx => ?_); replace H := H.ext hx; clear hx; (try clear w2); revert w3; intro w2 H; simp only [List.getElem_toArray, List.getElem_cons_succ, List.getElem_cons_zero, Act.put, List.setIfInBounds_toArray, List.set_cons_succ, List.set_cons_zero])) | (guard_target =~ wpTreeC _ _ _ Tr.nil _ _ _; refine treeC_nil H (fun w3 H2 => ?_); clear H; (try clear w2); revert w3; intro w2 H)))
  go_loopg [5] n (fun k i wr => k ≤ n ∧ i = .int .i64 ((n - k : Nat) : Int) ∧ Own w.heap.size w wr [.rd A2 b9 o9 (tR L), .rd A b0 o0 (tR L)])
  case atStart => exact ⟨Nat.le_refl _, by simp, H⟩
  case round =>
    clear H
    obtain ⟨hk, rfl, H⟩ := hrel
    by_cases hlt : 0 < gk
    · obtain ⟨j, hj⟩ : ∃ j, n - gk = j := ⟨_, rfl⟩
      have hjl : j < n := by omega
      rw [hj]
      have HJ := Lib.hid hj
      obtain ⟨⟨tp, bt, hl, hr, ⟨lx, ly⟩, ⟨rx, ry⟩⟩, htz⟩ : ∃ t, L[j]? = some t := ⟨_, List.getElem?_eq_getElem (by have := HN.out; omega)⟩
      have hpos : 0 < (tR L).length := by rw [tR_len]; have := HN.out; omega
      obtain rfl := H.rdAddr m0 hpos
      obtain rfl := H.rdAddr m1 hpos
      have hp := t_at (A := some ⟨b0, o0, none⟩) (bb := b0) (off := o0) htz
      have hp2 := t_at (A := some ⟨b9, o9, none⟩) (bb := b9) (off := o9) htz
      have hq := fun w => eqTz_neq ⟨tp, bt, hl, hr, ⟨lx, ly⟩, ⟨rx, ry⟩⟩ ⟨tp, bt, hl, hr, ⟨lx, ly⟩, ⟨rx, ry⟩⟩ w
      simp only [tzV, decide_true, Bool.not_true] at hq
      clear htz hj hpos
      go_wp2_with (first
        | go_big_skip
        | (guard_target =~ Code.wp _ (Code.region 6 _ true) _ _ _; refine region_treeC0 6 (G := True) (.q 0 (.q 1 (.q 2 (.q 3 (.q 4 (.q 5 (.q 6 (.q 7 (.q 8 .nil))))))))) (by kernel_rfl) (by intro c a d v w h; cases d <;> first | exact h | exact hQ h) (by kernel_rfl) H ⟨trivial⟩ (fun _ w3 H2 => ?_); (clear H; (try clear w2); revert w3; intro w2 H))
        | (guard_target =~ wpList _ _ _ (_ :: _) _ _; (first | (guard_target =~ wpList _ _ _ (Oper.mk _ (.load _ _) _ _ _ _ :: _) _ _; refine BigFrame.wpList_want rfl (fun K hK => ?_); (first | (refine o_load (v := ?_) (r := ?_) rfl rfl H ?_ ?_ ?_ (hK _ _ ?_); rotate_left 2; (with_reducible assumption); (repeat first | exact .head _ | apply List.Mem.tail); (focus (intro _; simp [hq]; done))) | (refine o_loadC (v := ?_) (row := ?_) rfl rfl H ?_ ?_ ?_ (hK _ _ ?_); rotate_left 2; (repeat first | exact .head _ | apply List.Mem.tail); (first | exact rfl | with_reducible assumption); (focus (intro _; simp [hq]; done))) | (refine o_loadN (cs := ?_) (r := ?_) rfl rfl H ?_ ?_ ?_ ?_ (hK _ _ ?_); rotate_left 2; (with_reducible assumption); (repeat first | exact .head _ | apply List.Mem.tail); (focus (intro _; simp [hq]; done)); (focus (intro _; simp [hq]; done))) | (refine o_loadNC (row := ?_) rfl rfl H ?_ ?_ ?_ (hK _ _ ?_); rotate_left 1; (repeat first | exact .head _ | apply List.Mem.tail); (focus (intro _; simp [hq]; done)); (focus (intro _; simp [hq]; done)))); clear hK K) | (guard_target =~ wpList _ _ _ (Oper.mk _ (.store _ _ _) _ _ _ _ :: _) _ _; refine BigFrame.wpList_want rfl (fun K hK => ?_); refine o_store (l' := ?_) (row := ?_) rfl rfl H rfl ?_ ?_ ?_ ?_ (fun w3 H2 => hK _ _ ?_); rotate_left 2; (first | exact r0 | exact r1 | exact r2 | exact r3 | exact r4 | exact r5 | exact r6 | exact r7 | exact r8 | exact r9 | exact r10 | exact r11 | exact r12 | exact r13 | exact r14 | exact r15); (focus (intro _; (first | (simp [Act.eval, List.getD, hq]; done) | (simp [Act.eval, Value.cells, List.getD, hq]; done)))); (focus (first | (simp [Act.eval, List.getD, hq]; done) | (simp [Act.eval, Value.cells, List.getD, hq]; done) | ((try simp [Act.eval, List.getD, hq]); omega) | ((try simp [Act.eval, Value.cells, List.getD, hq]); omega))); (first | exact rfl | (focus ((first | (simp [Act.eval, List.getD, hq]; done) | (simp [Act.eval, Value.cells, List.getD, hq]; done))))); clear hK K; clear H; (try clear w2); revert w3; intro w2 H; (try simp [Act.eval, List.getD, hq] at H); (try simp [Value.cells, setL, hq] at H)) | ((first | (guard_target =~ wpList _ _ _ (Oper.mk _ (.alloc _) _ _ _ _ :: _) _ _; refine BigFrame.wpList_want rfl (fun K hK => ?_); refine o_alloc (z := ?_) rfl ?_ H rfl (fun w3 b2 he H2 => hK _ _ ?_); rotate_left 1; (focus (intro _; simp; with_reducible exact rfl))) | (guard_target =~ wpList _ _ _ (Oper.mk _ (.box _ _) _ _ _ _ :: _) _ _; refine BigFrame.wpList_want rfl (fun K hK => ?_); refine o_box rfl H rfl (fun w3 b2 he H2 => hK _ _ ?_)) | (guard_target =~ wpList _ _ _ (Oper.mk _ (.buildSlice _ _ _) _ _ _ _ :: _) _ _; refine BigFrame.wpList_want rfl (fun K hK => ?_); refine o_buildSlice (C := ?_) (E := ?_) rfl rfl H ?_ rfl (fun w3 b2 he H2 => hK _ _ ?_); rotate_left 2; (focus (intro _; simp [go_sem, Instr.buildSlice]; with_reducible exact rfl)))); clear hK K he; clear H; (try clear w2); revert w3; intro w2 H; (try simp [Act.eval, List.getD, hq] at H); (try simp [Value.cells, setL, hq] at H))); simp only [Act.put, List.setIfInBounds_toArray, List.set_cons_succ, List.set_cons_zero, hq])
        | (guard_target =~ wpTreeC _ _ _ _ _ _ _; first | (guard_target =~ wpTreeC _ _ _ (Tr.e _ Tr.nil) _ _ _; refine treeC_last (by decide +kernel) H rfl rfl (fun w3 H2 K hK => ?_); clear H; (try clear w2); (revert w3; intro w2 H); simp only [List.getElem_toArray, List.getElem_cons_succ, List.getElem_cons_zero]; (first | (guard_target =~ Oper.wp _ (Oper.mk _ (.store _ _ _) _ _ _ _) _ _ _ _; refine o_store (l' := ?_) (row := ?_) rfl rfl H rfl ?_ ?_ ?_ ?_ (fun w3 H2 => hK _ _ ?_); rotate_left 2; (first | exact r0 | exact r1 | exact r2 | exact r3 | exact r4 | exact r5 | exact r6 | exact r7 | exact r8 | exact r9 | exact r10 | exact r11 | exact r12 | exact r13 | exact r14 | exact r15); (focus (intro _; (first | (simp [Act.eval, List.getD, hq]; done) | (simp [Act.eval, Value.cells, List.getD, hq]; done)))); (focus (first | (simp [Act.eval, List.getD, hq]; done) | (simp [Act.eval, Value.cells, List.getD, hq]; done) | ((try simp [Act.eval, List.getD, hq]); omega) | ((try simp [Act.eval, Value.cells, List.getD, hq]); omega))); (first | exact rfl | (focus ((first | (simp [Act.eval, List.getD, hq]; done) | (simp [Act.eval, Value.cells, List.getD, hq]; done))))); clear hK K; clear H; (try clear w2); revert w3; intro w2 H; (try simp [Act.eval, List.getD, hq] at H); (try simp [Value.cells, setL, hq] at H)) | (guard_target =~ Oper.wp _ (Oper.mk _ (.load _ _) _ _ _ _) _ _ _ _; (first | (refine o_load (v := ?_) (r := ?_) rfl rfl H ?_ ?_ ?_ (hK _ _ ?_); rotate_left 2; (with_reducible assumption); (repeat first | exact .head _ | apply List.Mem.tail); (focus (intro _; simp [hq]; done))) | (refine o_loadC (v := ?_) (row := ?_) rfl rfl H ?_ ?_ ?_ (hK _ _ ?_); rotate_left 2; (repeat first | exact .head _ | apply List.Mem.tail); (first | exact rfl | with_reducible assumption); (focus (intro _; simp [hq]; done))) | (refine o_loadN (cs := ?_) (r := ?_) rfl rfl H ?_ ?_ ?_ ?_ (hK _ _ ?_); rotate_left 2; (with_reducible assumption); (repeat first | exact .head _ | apply List.Mem.tail); (focus (intro _; simp [hq]; done)); (focus (intro _; simp [hq]; done))) | (refine o_loadNC (row := ?_) rfl rfl H ?_ ?_ ?_ (hK _ _ ?_); rotate_left 1; (repeat first | exact .head _ | apply List.Mem.tail); (focus (intro _; simp [hq]; done)); (focus (intro _; simp [hq]; done)))); clear hK K) | ((first | (guard_target =~ Oper.wp _ (Oper.mk _ (.alloc _) _ _ _ _) _ _ _ _; refine o_alloc (z := ?_) rfl ?_ H rfl (fun w3 b2 he H2 => hK _ _ ?_); rotate_left 1; (focus (intro _; simp; with_reducible exact rfl))) | (guard_target =~ Oper.wp _ (Oper.mk _ (.box _ _) _ _ _ _) _ _ _ _; refine o_box rfl H rfl (fun w3 b2 he H2 => hK _ _ ?_)) | (guard_target =~ Oper.wp _ (Oper.mk _ (.buildSlice _ _ _) _ _ _ _) _ _ _ _; refine o_buildSlice (C := ?_) (E := ?_) rfl rfl H ?_ rfl (fun w3 b2 he H2 => hK _ _ ?_); rotate_left 2; (focus (intro _; simp [go_sem, Instr.buildSlice]; with_reducible exact rfl)))); clear hK K he; clear H; (try clear w2); revert w3; intro w2 H; (try simp [Act.eval, List.getD, hq] at H); (try simp [Value.cells, setL, hq] at H))); simp only [Act.put, List.setIfInBounds_toArray, List.set_cons_succ, List.set_cons_zero, hq]) | (guard_target =~ wpTreeC _ _ _ (Tr.q _ _) _ _ _; first | (refine treeC_quiet ⟨_, H, by repeat first | exact .here | apply Suf.there⟩ rfl rfl rfl (fun K hK => ?_); simp only [List.getElem_toArray, List.getElem_cons_succ, List.getElem_cons_zero]; first | (guard_target =~ Oper.quiet _ (Oper.mk _ (.load _ _) _ _ _ _) _ _ _; (first | (refine q_load (v := ?_) (r := ?_) rfl rfl ?_ ?_ ?_ (hK _ ?_); rotate_left 2; (with_reducible assumption); (repeat first | exact .head _ | apply List.Mem.tail); (focus (intro _; simp [hq]; done))) | (refine q_loadC (v := ?_) (row := ?_) rfl rfl ?_ ?_ ?_ (hK _ ?_); rotate_left 2; (repeat first | exact .head _ | apply List.Mem.tail); (first | exact rfl | with_reducible assumption); (focus (intro _; simp [hq]; done))) | (refine q_loadN (cs := ?_) (r := ?_) rfl rfl ?_ ?_ ?_ ?_ (hK _ ?_); rotate_left 2; (with_reducible assumption); (repeat first | exact .head _ | apply List.Mem.tail); (focus (intro _; simp [hq]; done)); (focus (intro _; simp [hq]; done))) | (refine q_loadNC (row := ?_) rfl rfl ?_ ?_ ?_ (hK _ ?_); rotate_left 1; (repeat first | exact .head _ | apply List.Mem.tail); (focus (intro _; simp [hq]; done)); (focus (intro _; simp [hq]; done)))); clear hK K; simp only [Act.put, List.setIfInBounds_toArray, List.set_cons_succ, List.set_cons_zero, hq]) | (go_big_quiet_op; (try refine ⟨_, fun _ _ => rfl, ?_⟩); refine hK _ ?_; clear hK K)) | (refine treeC_call (v := ?_) ⟨_, H, by repeat first | exact .here | apply Suf.there⟩ rfl rfl (fun w3 H K hK => ?_) ?_; rotate_left 1; (focus (simp only [List.getElem_toArray, List.getElem_cons_succ, List.getElem_cons_zero]; first | (go_big_op; first | exact hK _ (Ext.refl _)))); simp only [List.getElem_toArray, List.getElem_cons_succ, List.getElem_cons_zero, Act.put, List.setIfInBounds_toArray, List.set_cons_succ, List.set_cons_zero, hq]) | (refine treeC_skip ⟨_, H, by repeat first | exact .here | apply Suf.there⟩ rfl rfl ?_; simp only [List.getElem_toArray, List.getElem_cons_succ, List.getElem_cons_zero, Act.put, List.setIfInBounds_toArray, List.set_cons_succ, List.set_cons_zero, hq])) | (guard_target =~ wpTreeC _ _ _ (Tr.both _ _) _ _ _; refine treeC_both ?_ ?_) | (guard_target =~ wpTreeC _ _ _ (Tr.e _ _) _ _ _; first | (refine treeC_one H rfl rfl (fun w3 H2 K hK => ?_); clear H; (try clear w2); (revert w3; intro w2 H); simp only [List.getElem_toArray, List.getElem_cons_succ, List.getElem_cons_zero]; first | ((first | (guard_target =~ Oper.wp _ (Oper.mk _ (.store _ _ _) _ _ _ _) _ _ _ _; refine o_store (l' := ?_) (row := ?_) rfl rfl H rfl ?_ ?_ ?_ ?_ (fun w3 H2 => hK _ _ ⟨_, H2, ?_⟩ ?_); rotate_left 2; (first | exact r0 | exact r1 | exact r2 | exact r3 | exact r4 | exact r5 | exact r6 | exact r7 | exact r8 | exact r9 | exact r10 | exact r11 | exact r12 | exact r13 | exact r14 | exact r15); (focus (intro _; (first | (simp [Act.eval, List.getD, hq]; done) | (simp [Act.eval, Value.cells, List.getD, hq]; done)))); (focus (first | (simp [Act.eval, List.getD, hq]; done) | (simp [Act.eval, Value.cells, List.getD, hq]; done) | ((try simp [Act.eval, List.getD, hq]); omega) | ((try simp [Act.eval, Value.cells, List.getD, hq]); omega))); (first | exact rfl | (focus ((first | (simp [Act.eval, List.getD, hq]; done) | (simp [Act.eval, Value.cells, List.getD, hq]; done))))); (first | (guard_target =~ Suf _ _; repeat first | exact .here | apply Suf.there) | (rotate_left; repeat first | exact .here | apply Suf.there)); clear hK K; clear H; (try clear w2); revert w3; intro w2 H; (try simp [Act.eval, List.getD, hq] at H); (try simp [Value.cells, setL, hq] at H)) | (guard_target =~ Oper.wp _ (Oper.mk _ (.load _ _) _ _ _ _) _ _ _ _; (first | (refine o_load (v := ?_) (r := ?_) rfl rfl H ?_ ?_ ?_ (hK _ _ ⟨_, H, by repeat first | exact .here | apply Suf.there⟩ ?_); rotate_left 2; (with_reducible assumption); (repeat first | exact .head _ | apply List.Mem.tail); (focus (intro _; simp [hq]; done))) | (refine o_loadC (v := ?_) (row := ?_) rfl rfl H ?_ ?_ ?_ (hK _ _ ⟨_, H, by repeat first | exact .here | apply Suf.there⟩ ?_); rotate_left 2; (repeat first | exact .head _ | apply List.Mem.tail); (first | exact rfl | with_reducible assumption); (focus (intro _; simp [hq]; done))) | (refine o_loadN (cs := ?_) (r := ?_) rfl rfl H ?_ ?_ ?_ ?_ (hK _ _ ⟨_, H, by repeat first | exact .here | apply Suf.there⟩ ?_); rotate_left 2; (with_reducible assumption); (repeat first | exact .head _ | apply List.Mem.tail); (focus (intro _; simp [hq]; done)); (focus (intro _; simp [hq]; done))) | (refine o_loadNC (row := ?_) rfl rfl H ?_ ?_ ?_ (hK _ _ ⟨_, H, by repeat first | exact .here | apply Suf.there⟩ ?_); rotate_left 1; (repeat first | exact .head _ | apply List.Mem.tail); (focus (intro _; simp [hq]; done)); (focus (intro _; simp [hq]; done)))); clear hK K) | ((first | (guard_target =~ Oper.wp _ (Oper.mk _ (.alloc _) _ _ _ _) _ _ _ _; refine o_alloc (z := ?_) rfl ?_ H rfl (fun w3 b2 he H2 => hK _ _ ⟨_, H2, ?_⟩ ?_); rotate_left 1; (focus (intro _; simp; with_reducible exact rfl))) | (guard_target =~ Oper.wp _ (Oper.mk _ (.box _ _) _ _ _ _) _ _ _ _; refine o_box rfl H rfl (fun w3 b2 he H2 => hK _ _ ⟨_, H2, ?_⟩ ?_)) | (guard_target =~ Oper.wp _ (Oper.mk _ (.buildSlice _ _ _) _ _ _ _) _ _ _ _; refine o_buildSlice (C := ?_) (E := ?_) rfl rfl H ?_ rfl (fun w3 b2 he H2 => hK _ _ ⟨_, H2, ?_⟩ ?_); rotate_left 2; (focus (intro _; simp [go_sem, Instr.buildSlice]; with_reducible exact rfl)))); (first | (guard_target =~ Suf _ _; repeat first | exact .here | apply Suf.there) | (rotate_left; repeat first | exact .here | apply Suf.there)); clear hK K he; clear H; (try clear w2); revert w3; intro w2 H; (try simp [Act.eval, List.getD, hq] at H); (try simp [Value.cells, setL, hq] at H))); simp only [Act.put, List.setIfInBounds_toArray, List.set_cons_succ, List.set_cons_zero, hq]) | (go_big_op; (first | (refine hK _ _ ⟨_, H, by repeat first | exact .here | apply Suf.there⟩ ?_; clear hK K; (try simp only [Act.put, List.setIfInBounds_toArray, List.set_cons_succ, List.set_cons_zero, hq])) | skip))) | (refine treeC_one_skip (fun w3 hx => ⟨_, H.ext hx, by repeat first | exact .here | apply Suf.there⟩) rfl rfl (fun w3 hx => ?_); replace H := H.ext hx; clear hx; (try clear w2); revert w3; intro w2 H; simp only [List.getElem_toArray, List.getElem_cons_succ, List.getElem_cons_zero, Act.put, List.setIfInBounds_toArray, List.set_cons_succ, List.set_cons_zero, hq])) | (guard_target =~ wpTreeC _ _ _ Tr.nil _ _ _; refine treeC_nil H (fun w3 H2 => ?_); clear H; (try clear w2); revert w3; intro w2 H)))
      go_roundg (gk - 1)
      case rel => exact ⟨by omega, by have := HJ.out; congr 1; omega, H⟩
      case measure => omega
    · obtain rfl : gk = 0 := by omega
      go_wp2_with (first
        | go_big_skip
        | (guard_target =~ Code.wp _ (Code.region 6 _ true) _ _ _; refine region_treeC0 6 (G := True) (.q 0 (.q 1 (.q 2 (.q 3 (.q 4 (.q 5 (.q 6 (.q 7 (.q 8 .nil))))))))) (by kernel_rfl) (by intro c a d v w h; cases d <;> first | exact h | exact hQ h) (by kernel_rfl) H ⟨trivial⟩ (fun _ w3 H2 => ?_); (clear H; (try clear w2); revert w3; intro w2 H))
        | (guard_target =~ wpList _ _ _ (_ :: _) _ _; (first | (guard_target =~ wpList _ _ _ (Oper.mk _ (.load _ _) _ _ _ _ :: _) _ _; refine BigFrame.wpList_want rfl (fun K hK => ?_); (first | (refine o_load (v := ?_) (r := ?_) rfl rfl H ?_ ?_ ?_ (hK _ _ ?_); rotate_left 2; (with_reducible assumption); (repeat first | exact .head _ | apply List.Mem.tail); (focus (intro _; simp; done))) | (refine o_loadC (v := ?_) (row := ?_) rfl rfl H ?_ ?_ ?_ (hK _ _ ?_); rotate_left 2; (repeat first | exact .head _ | apply List.Mem.tail); (first | exact rfl | with_reducible assumption); (focus (intro _; simp; done))) | (refine o_loadN (cs := ?_) (r := ?_) rfl rfl H ?_ ?_ ?_ ?_ (hK _ _ ?_); rotate_left 2; (with_reducible assumption); (repeat first | exact .head _ | apply List.Mem.tail); (focus (intro _; simp; done)); (focus (intro _; simp; done))) | (refine o_loadNC (row := ?_) rfl rfl H ?_ ?_ ?_ (hK _ _ ?_); rotate_left 1; (repeat first | exact .head _ | apply List.Mem.tail); (focus (intro _; simp; done)); (focus (intro _; simp; done)))); clear hK K) | (guard_target =~ wpList _ _ _ (Oper.mk _ (.store _ _ _) _ _ _ _ :: _) _ _; refine BigFrame.wpList_want rfl (fun K hK => ?_); refine o_store (l' := ?_) (row := ?_) rfl rfl H rfl ?_ ?_ ?_ ?_ (fun w3 H2 => hK _ _ ?_); rotate_left 2; (first | exact r0 | exact r1 | exact r2 | exact r3 | exact r4 | exact r5 | exact r6 | exact r7 | exact r8 | exact r9 | exact r10 | exact r11 | exact r12 | exact r13 | exact r14 | exact r15); (focus (intro _; simp [Act.eval, Value.cells]; done)); (focus (first | (simp [Act.eval, Value.cells]; done) | ((try simp [Act.eval, Value.cells]); omega))); (first | exact rfl | (focus (simp [Act.eval, Value.cells]; done))); clear hK K; clear H; (try clear w2); revert w3; intro w2 H; simp [Act.eval, Value.cells, setL, List.getD] at H) | ((first | (guard_target =~ wpList _ _ _ (Oper.mk _ (.alloc _) _ _ _ _ :: _) _ _; refine BigFrame.wpList_want rfl (fun K hK => ?_); refine o_alloc (z := ?_) rfl ?_ H rfl (fun w3 b2 he H2 => hK _ _ ?_); rotate_left 1; (focus (intro _; simp; with_reducible exact rfl))) | (guard_target =~ wpList _ _ _ (Oper.mk _ (.box _ _) _ _ _ _ :: _) _ _; refine BigFrame.wpList_want rfl (fun K hK => ?_); refine o_box rfl H rfl (fun w3 b2 he H2 => hK _ _ ?_)) | (guard_target =~ wpList _ _ _ (Oper.mk _ (.buildSlice _ _ _) _ _ _ _ :: _) _ _; refine BigFrame.wpList_want rfl (fun K hK => ?_); refine o_buildSlice (C := ?_) (E := ?_) rfl rfl H ?_ rfl (fun w3 b2 he H2 => hK _ _ ?_); rotate_left 2; (focus (intro _; simp [go_sem, Instr.buildSlice]; with_reducible exact rfl)))); clear hK K he; clear H; (try clear w2); revert w3; intro w2 H; simp [Act.eval, Value.cells, setL, List.getD] at H)); simp only [Act.put, List.setIfInBounds_toArray, List.set_cons_succ, List.set_cons_zero])
        | (guard_target =~ wpTreeC _ _ _ _ _ _ _; first | (guard_target =~ wpTreeC _ _ _ (Tr.e _ Tr.nil) _ _ _; refine treeC_last (by decide +kernel) H rfl rfl (fun w3 H2 K hK => ?_); clear H; (try clear w2); (revert w3; intro w2 H); simp only [List.getElem_toArray, List.getElem_cons_succ, List.getElem_cons_zero]; (first | (guard_target =~ Oper.wp _ (Oper.mk _ (.store _ _ _) _ _ _ _) _ _ _ _; refine o_store (l' := ?_) (row := ?_) rfl rfl H rfl ?_ ?_ ?_ ?_ (fun w3 H2 => hK _ _ ?_); rotate_left 2; (first | exact r0 | exact r1 | exact r2 | exact r3 | exact r4 | exact r5 | exact r6 | exact r7 | exact r8 | exact r9 | exact r10 | exact r11 | exact r12 | exact r13 | exact r14 | exact r15); (focus (intro _; simp [Act.eval, Value.cells]; done)); (focus (first | (simp [Act.eval, Value.cells]; done) | ((try simp [Act.eval, Value.cells]); omega))); (first | exact rfl | (focus (simp [Act.eval, Value.cells]; done))); clear hK K; clear H; (try clear w2); revert w3; intro w2 H; simp [Act.eval, Value.cells, setL, List.getD] at H) | (guard_target =~ Oper.wp _ (Oper.mk _ (.load _ _) _ _ _ _) _ _ _ _; (first | (refine o_load (v := ?_) (r := ?_) rfl rfl H ?_ ?_ ?_ (hK _ _ ?_); rotate_left 2; (with_reducible assumption); (repeat first | exact .head _ | apply List.Mem.tail); (focus (intro _; simp; done))) | (refine o_loadC (v := ?_) (row := ?_) rfl rfl H ?_ ?_ ?_ (hK _ _ ?_); rotate_left 2; (repeat first | exact .head _ | apply List.Mem.tail); (first | exact rfl | with_reducible assumption); (focus (intro _; simp; done))) | (refine o_loadN (cs := ?_) (r := ?_) rfl rfl H ?_ ?_ ?_ ?_ (hK _ _ ?_); rotate_left 2; (with_reducible assumption); (repeat first | exact .head _ | apply List.Mem.tail); (focus (intro _; simp; done)); (focus (intro _; simp; done))) | (refine o_loadNC (row := ?_) rfl rfl H ?_ ?_ ?_ (hK _ _ ?_); rotate_left 1; (repeat first | exact .head _ | apply List.Mem.tail); (focus (intro _; simp; done)); (focus (intro _; simp; done)))); clear hK K) | ((first | (guard_target =~ Oper.wp _ (Oper.mk _ (.alloc _) _ _ _ _) _ _ _ _; refine o_alloc (z := ?_) rfl ?_ H rfl (fun w3 b2 he H2 => hK _ _ ?_); rotate_left 1; (focus (intro _; simp; with_reducible exact rfl))) | (guard_target =~ Oper.wp _ (Oper.mk _ (.box _ _) _ _ _ _) _ _ _ _; refine o_box rfl H rfl (fun w3 b2 he H2 => hK _ _ ?_)) | (guard_target =~ Oper.wp _ (Oper.mk _ (.buildSlice _ _ _) _ _ _ _) _ _ _ _; refine o_buildSlice (C := ?_) (E := ?_) rfl rfl H ?_ rfl (fun w3 b2 he H2 => hK _ _ ?_); rotate_left 2; (focus (intro _; simp [go_sem, Instr.buildSlice]; with_reducible exact rfl)))); clear hK K he; clear H; (try clear w2); revert w3; intro w2 H; simp [Act.eval, Value.cells, setL, List.getD] at H)); simp only [Act.put, List.setIfInBounds_toArray, List.set_cons_succ, List.set_cons_zero]) | (guard_target =~ wpTreeC _ _ _ (Tr.q _ _) _ _ _; first | (refine treeC_quiet ⟨_, H, by repeat first | exact .here | apply Suf.there⟩ rfl rfl rfl (fun K hK => ?_); simp only [List.getElem_toArray, List.getElem_cons_succ, List.getElem_cons_zero]; first | (guard_target =~ Oper.quiet _ (Oper.mk _ (.load _ _) _ _ _ _) _ _ _; (first | (refine q_load (v := ?_) (r := ?_) rfl rfl ?_ ?_ ?_ (hK _ ?_); rotate_left 2; (with_reducible assumption); (repeat first | exact .head _ | apply List.Mem.tail); (focus (intro _; simp; done))) | (refine q_loadC (v := ?_) (row := ?_) rfl rfl ?_ ?_ ?_ (hK _ ?_); rotate_left 2; (repeat first | exact .head _ | apply List.Mem.tail); (first | exact rfl | with_reducible assumption); (focus (intro _; simp; done))) | (refine q_loadN (cs := ?_) (r := ?_) rfl rfl ?_ ?_ ?_ ?_ (hK _ ?_); rotate_left 2; (with_reducible assumption); (repeat first | exact .head _ | apply List.Mem.tail); (focus (intro _; simp; done)); (focus (intro _; simp; done))) | (refine q_loadNC (row := ?_) rfl rfl ?_ ?_ ?_ (hK _ ?_); rotate_left 1; (repeat first | exact .head _ | apply List.Mem.tail); (focus (intro _; simp; done)); (focus (intro _; simp; done)))); clear hK K; simp only [Act.put, List.setIfInBounds_toArray, List.set_cons_succ, List.set_cons_zero]) | (go_big_quiet_op; (try refine ⟨_, fun _ _ => rfl, ?_⟩); refine hK _ ?_; clear hK K)) | (refine treeC_call (v := ?_) ⟨_, H, by repeat first | exact .here | apply Suf.there⟩ rfl rfl (fun w3 H K hK => ?_) ?_; rotate_left 1; (focus (simp only [List.getElem_toArray, List.getElem_cons_succ, List.getElem_cons_zero]; first | (go_big_op; first | exact hK _ (Ext.refl _)))); simp only [List.getElem_toArray, List.getElem_cons_succ, List.getElem_cons_zero, Act.put, List.setIfInBounds_toArray, List.set_cons_succ, List.set_cons_zero]) | (refine treeC_skip ⟨_, H, by repeat first | exact .here | apply Suf.there⟩ rfl rfl ?_; simp only [List.getElem_toArray, List.getElem_cons_succ, List.getElem_cons_zero, Act.put, List.setIfInBounds_toArray, List.set_cons_succ, List.set_cons_zero])) | (guard_target =~ wpTreeC _ _ _ (Tr.both _ _) _ _ _; refine treeC_both ?_ ?_) | (guard_target =~ wpTreeC _ _ _ (Tr.e _ _) _ _ _; first | (refine treeC_one H rfl rfl (fun w3 H2 K hK => ?_); clear H; (try clear w2); (revert w3; intro w2 H); simp only [List.getElem_toArray, List.getElem_cons_succ, List.getElem_cons_zero]; first | ((first | (guard_target =~ Oper.wp _ (Oper.mk _ (.store _ _ _) _ _ _ _) _ _ _ _; refine o_store (l' := ?_) (row := ?_) rfl rfl H rfl ?_ ?_ ?_ ?_ (fun w3 H2 => hK _ _ ⟨_, H2, ?_⟩ ?_); rotate_left 2; (first | exact r0 | exact r1 | exact r2 | exact r3 | exact r4 | exact r5 | exact r6 | exact r7 | exact r8 | exact r9 | exact r10 | exact r11 | exact r12 | exact r13 | exact r14 | exact r15); (focus (intro _; simp [Act.eval, Value.cells]; done)); (focus (first | (simp [Act.eval, Value.cells]; done) | ((try simp [Act.eval, Value.cells]); omega))); (first | exact rfl | (focus (simp [Act.eval, Value.cells]; done))); (first | (guard_target =~ Suf _ _; repeat first | exact .here | apply Suf.there) | (rotate_left; repeat first | exact .here | apply Suf.there)); clear hK K; clear H; (try clear w2); revert w3; intro w2 H; simp [Act.eval, Value.cells, setL, List.getD] at H) | (guard_target =~ Oper.wp _ (Oper.mk _ (.load _ _) _ _ _ _) _ _ _ _; (first | (refine o_load (v := ?_) (r := ?_) rfl rfl H ?_ ?_ ?_ (hK _ _ ⟨_, H, by repeat first | exact .here | apply Suf.there⟩ ?_); rotate_left 2; (with_reducible assumption); (repeat first | exact .head _ | apply List.Mem.tail); (focus (intro _; simp; done))) | (refine o_loadC (v := ?_) (row := ?_) rfl rfl H ?_ ?_ ?_ (hK _ _ ⟨_, H, by repeat first | exact .here | apply Suf.there⟩ ?_); rotate_left 2; (repeat first | exact .head _ | apply List.Mem.tail); (first | exact rfl | with_reducible assumption); (focus (intro _; simp; done))) | (refine o_loadN (cs := ?_) (r := ?_) rfl rfl H ?_ ?_ ?_ ?_ (hK _ _ ⟨_, H, by repeat first | exact .here | apply Suf.there⟩ ?_); rotate_left 2; (with_reducible assumption); (repeat first | exact .head _ | apply List.Mem.tail); (focus (intro _; simp; done)); (focus (intro _; simp; done))) | (refine o_loadNC (row := ?_) rfl rfl H ?_ ?_ ?_ (hK _ _ ⟨_, H, by repeat first | exact .here | apply Suf.there⟩ ?_); rotate_left 1; (repeat first | exact .head _ | apply List.Mem.tail); (focus (intro _; simp; done)); (focus (intro _; simp; done)))); clear hK K) | ((first | (guard_target =~ Oper.wp _ (Oper.mk _ (.alloc _) _ _ _ _) _ _ _ _; refine o_alloc (z := ?_) rfl ?_ H rfl (fun w3 b2 he H2 => hK _ _ ⟨_, H2, ?_⟩ ?_); rotate_left 1; (focus (intro _; simp; with_reducible exact rfl))) | (guard_target =~ Oper.wp _ (Oper.mk _ (.box _ _) _ _ _ _) _ _ _ _; refine o_box rfl H rfl (fun w3 b2 he H2 => hK _ _ ⟨_, H2, ?_⟩ ?_)) | (guard_target =~ Oper.wp _ (Oper.mk _ (.buildSlice _ _ _) _ _ _ _) _ _ _ _; refine o_buildSlice (C := ?_) (E := ?_) rfl rfl H ?_ rfl (fun w3 b2 he H2 => hK _ _ ⟨_, H2, ?_⟩ ?_); rotate_left 2; (focus (intro _; simp [go_sem, Instr.buildSlice]; with_reducible exact rfl)))); (first | (guard_target =~ Suf _ _; repeat first | exact .here | apply Suf.there) | (rotate_left; repeat first | exact .here | apply Suf.there)); clear hK K he; clear H; (try clear w2); revert w3; intro w2 H; simp [Act.eval, Value.cells, setL, List.getD] at H)); simp only [Act.put, List.setIfInBounds_toArray, List.set_cons_succ, List.set_cons_zero]) | (go_big_op; (first | (refine hK _ _ ⟨_, H, by repeat first | exact .here | apply Suf.there⟩ ?_; clear hK K; (try simp only [Act.put, List.setIfInBounds_toArray, List.set_cons_succ, List.set_cons_zero])) | skip))) | (refine treeC_one_skip (fun w3 hx => ⟨_, H.ext hx, by repeat first | exact .here | apply Suf.there⟩) rfl rfl (fun w3 hx => ?_); replace H := H.ext hx; clear hx; (try clear w2); revert w3; intro w2 H; simp only [List.getElem_toArray, List.getElem_cons_succ, List.getElem_cons_zero, Act.put, List.setIfInBounds_toArray, List.set_cons_succ, List.set_cons_zero])) | (guard_target =~ wpTreeC _ _ _ Tr.nil _ _ _; refine treeC_nil H (fun w3 H2 => ?_); clear H; (try clear w2); revert w3; intro w2 H)))
      go_ret
      exact ⟨rfl, H.below⟩
end Go.Proofs.Ytlhmjhildlnokaa

/-
  The trapezes about a point, as the statement asks for them.
-/
namespace Go.Proofs.Ytlhmjhildlnokaa
set_option linter.unusedVariables false
set_option linter.unusedSimpArgs false
open Go.RowKit Go.Sort Go.Shelf
variable {vs : List Vt} {es : List Eg} {S : List (Int × Sg)} {N : List Nd} {P : List Pc} {X : IxS} {os : List Int} {q : Pt} {t : Tz}
/-! ### The trapezes about a point, as the statement asks for them -/
def sideV (vs : List Vt) (es : List Eg) (id : Int) (q : Pt) : Int := turnZ (segI vs es id).a (segI vs es id).b q
def skipB (vs : List Vt) (es : List Eg) (t : Tz) (q : Pt) : Bool :=
  (t.hl && !lessB t.l q) || ((t.hr && !lessB q t.r) || ((decide (0 < t.bot) && decide (sideV vs es t.bot q ≤ 0)) || (decide (0 < t.top) && decide (0 ≤ sideV vs es t.top q))))
theorem seg_sg {id : Int} {s : Sg} (O : SOk (segsOf vs es os).reverse) (h : (id, s) ∈ (segsOf vs es os).reverse) : s = segI vs es id := by
  rw [List.mem_reverse] at h
  unfold segsOf at h
  obtain ⟨i, _, e⟩ := List.mem_map.1 h
  injection e with e1 e2
  rw [← e1, e2]
theorem id_pos (H : RightP vs es) (I : BldI vs es os X) {id : Int} {s : Sg} (h : (id, s) ∈ (segsOf vs es os).reverse) : 0 < id ∧ (es.find? fun e => e.id == id).isSome = true := by
  obtain ⟨e, he, e1⟩ := (segs_of I.ids I.nodup (vs := vs)).mem _ h
  injection e1 with e1 e2
  subst e1
  have := (H.each e he).1
  exact ⟨by omega, by rw [find_edge H he]; rfl⟩
theorem skip_iff (H : RightP vs es) (I : BldI vs es os X) (V : Val (segsOf vs es os).reverse t) : skipB vs es t q = false ↔ InZ (segsOf vs es os).reverse t q := by
  have O := (I.ti H).ok
  have kb : t.bot ≠ 0 → 0 < t.bot ∧ sgOf (segsOf vs es os).reverse t.bot = segI vs es t.bot := fun h => ⟨(id_pos H I (V.bot h).1).1, seg_sg O (V.bot h).1⟩
  have kt : t.top ≠ 0 → 0 < t.top ∧ sgOf (segsOf vs es os).reverse t.top = segI vs es t.top := fun h => ⟨(id_pos H I (V.top h).1).1, seg_sg O (V.top h).1⟩
  unfold skipB
  simp only [Bool.or_eq_false_iff, Bool.and_eq_false_iff, Bool.not_eq_false', decide_eq_false_iff_not]
  constructor
  · rintro ⟨h1, h2, h3, h4⟩
    refine ⟨fun h => ?_, fun h => ?_, fun h => ?_, fun h => ?_⟩
    · rcases h1 with h1 | h1
      · rw [h] at h1; cases h1
      · exact h1
    · rcases h2 with h1 | h1
      · rw [h] at h1; cases h1
      · exact h1
    · obtain ⟨a, b⟩ := kb h
      rw [b]
      rcases h3 with h1 | h1
      · exact absurd a h1
      · unfold sideV at h1; omega
    · obtain ⟨a, b⟩ := kt h
      rw [b]
      rcases h4 with h1 | h1
      · exact absurd a h1
      · unfold sideV at h1; omega
  · rintro ⟨h1, h2, h3, h4⟩
    refine ⟨?_, ?_, ?_, ?_⟩
    · cases h : t.hl
      · exact .inl rfl
      · exact .inr (h1 h)
    · cases h : t.hr
      · exact .inl rfl
      · exact .inr (h2 h)
    · by_cases h : t.bot = 0
      · left; omega
      · right
        have := h3 h
        rw [(kb h).2] at this
        unfold sideV; omega
    · by_cases h : t.top = 0
      · left; omega
      · right
        have := h4 h
        rw [(kt h).2] at this
        unfold sideV; omega
theorem count_one {α : Type} [DecidableEq α] {f : α → Bool} {a : α} : ∀ {l : List α}, l.Nodup → a ∈ l → (∀ x ∈ l, f x = true ↔ x = a) → l.countP f = 1
  | [], _, h, _ => by cases h
  | b :: l, hn, h, hf => by
    rw [List.nodup_cons] at hn
    rw [List.countP_cons]
    by_cases e : b = a
    · subst e
      have : l.countP f = 0 := by
        rw [List.countP_eq_zero]
        intro x hx hfx
        have := (hf x (by simp [hx])).1 hfx
        subst this
        exact hn.1 hx
      rw [this, if_pos ((hf b (by simp)).2 rfl)]
    · have hfb : ¬ f b = true := fun g => e ((hf b (by simp)).1 g)
      rw [if_neg hfb, Nat.add_zero]
      rcases List.mem_cons.1 h with h | h
      · exact absurd h.symm e
      · exact count_one hn.2 h fun x hx => hf x (by simp [hx])
/-- What TrapTells asks. -/
structure TellsP (vs : List Vt) (es : List Eg) (P : List Pc) (L : List Tz) (q : Pt) (t0 : Tz) : Prop where
  one : L.countP (fun t => !skipB vs es t q) = 1
  bot : ∀ t ∈ L, skipB vs es t q = false → t.bot = t0.bot
theorem tells (H : RightP vs es) (I : BldI vs es os X) {L : List Tz} (hL : AllP X.P L) (iq : InP q) {i : Nat} {p : Pc} (h1 : X.P[i]? = some p) (h2 : p.g = false) (hI : InT (segsOf vs es os).reverse p.t (Xr q) (Yr q)) : TellsP vs es X.P L q p.t := by
  have T := I.ti H
  have hm : p.t ∈ L := hL.1.mem_iff.2 (mem_live.2 ⟨i, p, h1, h2, rfl⟩)
  have key : ∀ t ∈ L, (skipB vs es t q = false ↔ t = p.t) := by
    intro t ht
    obtain ⟨j, p', g1, g2, rfl⟩ := mem_live.1 (hL.1.mem_iff.1 ht)
    have V := T.val j p' g1 g2
    rw [skip_iff H I V, inZ_iff T.ok V iq]
    constructor
    · intro g
      exact val_uniq T.ok V (T.val i p h1 h2) g hI
    · intro e
      rw [e]; exact hI
  refine ⟨count_one (hL.1.nodup_iff.2 T.nodup) hm fun t ht => ?_, fun t ht h => by rw [(key t ht).1 h]⟩
  rw [← key t ht]
  simp
theorem live_len (P : List Pc) : (liveT P).length = liveN P := by
  unfold liveT liveN
  rw [List.length_map, List.countP_eq_length_filter]
/-- Whose lines a trapeze has. -/
theorem val_ids (H : RightP vs es) (I : BldI vs es os X) {L : List Tz} (hL : AllP X.P L) {t : Tz} (ht : t ∈ L) : (0 < t.bot → (es.find? fun e => e.id == t.bot).isSome = true) ∧ (0 < t.top → (es.find? fun e => e.id == t.top).isSome = true) := by
  obtain ⟨j, p', g1, g2, rfl⟩ := mem_live.1 (hL.1.mem_iff.1 ht)
  have V := (I.ti H).val j p' g1 g2
  exact ⟨fun h => (id_pos H I (V.bot (by omega)).1).2, fun h => (id_pos H I (V.top (by omega)).1).2⟩
/-- Points of lines are in range. -/
theorem seg_in (H : RightP vs es) {id x y : Int} (h : (⟨id, x, y⟩ : Eg) ∈ es) : InP (segZ vs x y).a ∧ InP (segZ vs x y).b := by
  have e := seg_ends H h
  simp only at e
  rw [e]
  have := edge_in H h
  exact ⟨this.1, this.2.1⟩
end Go.Proofs.Ytlhmjhildlnokaa

/-
  An argument that is a plan: two rows of structs of three integers.
-/
namespace Go.Proofs.Ytlhmjhildlnokaa
set_option linter.unusedVariables false
set_option linter.constructorNameAsVariable false
open Go.RowKit Go.WideShapes Go.ChangeShapes
theorem add_add (a : Addr) (m j : Nat) : (a.add m).add j = a.add (m + j) := by
  by_cases hm : m = 0
  · subst hm; simp [Addr.add]
  · by_cases hj : j = 0
    · subst hj; simp [Addr.add]
    · simp [Addr.add, hm, hj, Nat.add_assoc]
theorem len2 {l : List Value} (h : l.length = 2) : ∃ a b, l = [a, b] := by
  match l, h with
  | [a, b], _ => exact ⟨a, b, rfl⟩
theorem len3 {l : List Value} (h : l.length = 3) : ∃ a b c, l = [a, b, c] := by
  match l, h with
  | [a, b, c], _ => exact ⟨a, b, c, rfl⟩
section
variable {H : Type} {enc : TypeId × Value → H} {P : Program} {w : World} {base : Nat} {spare : Nat → Bool} {held : Bool}
/-- A row of elements, each of three cells. -/
theorem trod_rows {α : Type} {f : α → List Value} {Q : α → Prop} {t e : TypeId} {n : Nat} {cs : List Value} {y : DataW H × List MemPlace} (ht : P.underlying t = some (.slice e)) (hc : P.cellsOf e = 3) (hf3 : ∀ a, (f a).length = 3)
    (hE : ∀ (n : Nat) cs x, DataW.trod enc P w base spare held n e cs = some x → ∃ a, cs = f a ∧ Q a) (h : DataW.trod enc P w base spare held n t cs = some y) :
    ∃ (A : Option Addr) (cap : Nat) (L : List α), cs = [.slice A L.length cap] ∧ L.length ≤ cap ∧ cap ≤ maxLen ∧ (∀ a ∈ L, Q a) ∧ Row w A (L.flatMap f) := by
  rcases DataW.trod_slice ht h with ⟨rfl, _⟩ | ⟨a, len, cap, elems, rest, n', _, rfl, _, hb, hl, hm, hlen, hel, _⟩
  · exact ⟨none, 0, [], rfl, Nat.le_refl _, Nat.zero_le _, by simp, Row.nil_ _ _⟩
  · have each : ∀ i, i < len → ∃ v : α, Q v ∧ ∀ j u, (f v)[j]? = some u → w.cell? (a.add (i * 3 + j)) = some u := by
      intro i hi
      have h1 := hel i hi
      have h2 : elems[i]? = some elems[i] := List.getElem?_eq_getElem (by omega)
      rw [h2, Option.bind_eq_some_iff] at h1
      obtain ⟨cs', h3, h4⟩ := h1
      obtain ⟨v, rfl, hq⟩ := hE _ _ _ h4
      refine ⟨v, hq, fun j u hj => ?_⟩
      have h5 := World.cells?_some h3
      rw [hc] at h5
      have hj3 : j < 3 := by have := (List.getElem?_eq_some_iff.1 hj).1; rw [hf3] at this; exact this
      have := h5.2.2 j hj3
      rw [hj] at this
      rw [← this, add_add]
    have choose : ∀ k, k ≤ len → ∃ L : List α, L.length = k ∧ (∀ v ∈ L, Q v) ∧ ∀ i v, L[i]? = some v → ∀ j u, (f v)[j]? = some u → w.cell? (a.add (i * 3 + j)) = some u := by
      intro k
      induction k with
      | zero => exact fun _ => ⟨[], rfl, by simp, by simp⟩
      | succ k ih =>
        intro hk
        obtain ⟨L, h1, h2, h3⟩ := ih (by omega)
        obtain ⟨v, h4, h5⟩ := each k (by omega)
        refine ⟨L ++ [v], by simp [h1], fun u hu => ?_, fun i u hi => ?_⟩
        · rcases List.mem_append.1 hu with hu | hu
          · exact h2 u hu
          · obtain rfl := List.mem_singleton.1 hu; exact h4
        · rw [List.getElem?_append] at hi
          split at hi
          · exact h3 i u hi
          · rename_i hik
            have : i - L.length = 0 := by
              by_cases h0 : i - L.length = 0
              · exact h0
              · rw [List.getElem?_eq_none (by simp; omega)] at hi; cases hi
            rw [this] at hi
            obtain rfl : v = u := by simpa using hi
            obtain rfl : i = k := by omega
            exact h5
    obtain ⟨L, h1, h2, h3⟩ := choose len (Nat.le_refl _)
    refine ⟨some a, cap, L, by rw [h1], by omega, hm, h2, Row.of_cells fun j v hv => ?_⟩
    have hj : j < L.length * 3 := by have := (List.getElem?_eq_some_iff.1 hv).1; rwa [flat3_len f hf3] at this
    have hi : j / 3 < L.length := by omega
    have hg : L[j / 3]? = some L[j / 3] := List.getElem?_eq_getElem hi
    have hat := flat3_at f hf3 L (j / 3) _ hg
    have := h3 (j / 3) _ hg (j % 3) v (by
      rw [← hat, List.getElem?_take, if_pos (Nat.mod_lt _ (by omega)), List.getElem?_drop, show j / 3 * 3 + j % 3 = j by omega]; exact hv)
    rwa [show j / 3 * 3 + j % 3 = j by omega] at this
/-- Fields of a struct. -/
theorem trod_flds {fs : Array Field} {t : TypeId} {n : Nat} {cs : List Value} {y : DataW H × List MemPlace} {l : List (TypeId × Nat)} (hu : P.underlying t = some (.struct fs)) (hfs : fs.toList.map (fun f => (f.type, f.offset)) = l)
    (h : DataW.trod enc P w base spare held n t cs = some y) : cs.length = P.cellsOf t ∧ ∀ u o, (u, o) ∈ l → ∃ n' x, DataW.trod enc P w base spare held n' u ((cs.drop o).take (P.cellsOf u)) = some x := by
  obtain ⟨xs, n', _, _, hlen, hxl, hx⟩ := DataW.trod_struct hu h
  refine ⟨hlen, fun u o hm => ?_⟩
  rw [← hfs] at hm
  obtain ⟨f, hf, e⟩ := List.mem_map.1 hm
  simp only [Prod.mk.injEq] at e
  obtain ⟨rfl, rfl⟩ := e
  obtain ⟨i, hi⟩ := List.getElem?_of_mem hf
  have hi' : fs[i]? = some f := by simpa using hi
  have := hx i f hi'
  have hil : i < xs.length := by rw [hxl]; exact (Array.getElem?_eq_some_iff.1 hi').1
  rw [List.getElem?_eq_getElem hil] at this
  exact ⟨n', _, this⟩
end
section
variable {H : Type} {enc : TypeId × Value → H} {w : World} {base : Nat} {spare : Nat → Bool} {held : Bool}
theorem wf64 {n : Int} (h : (Lit.int .i64 n).wf = true) : -9223372036854775808 ≤ n ∧ n ≤ 9223372036854775807 := bounds_i64 h
def In64 (n : Int) : Prop := -9223372036854775808 ≤ n ∧ n ≤ 9223372036854775807
theorem trod_pt {n : Nat} {cs : List Value} {y : DataW H × List MemPlace} (h : DataW.trod enc Try.prog w base spare held n 47 cs = some y) : ∃ a b, cs = [.int .i64 a, .int .i64 b] ∧ In64 a ∧ In64 b := by
  have hu : Try.prog.underlying 47 = some (.struct (Try.prog.fieldsOf 47)) := by kernel_rfl
  have hf : (Try.prog.fieldsOf 47).toList.map (fun f => (f.type, f.offset)) = [(3, 0), (3, 1)] := by kernel_rfl
  have hi : Try.prog.underlying 3 = some (.int .i64) := by kernel_rfl
  have hc : Try.prog.cellsOf 3 = 1 := by kernel_rfl
  have hC : Try.prog.cellsOf 47 = 2 := by kernel_rfl
  obtain ⟨hl, hx⟩ := trod_flds hu hf h
  rw [hC] at hl
  obtain ⟨c0, c1, rfl⟩ := len2 hl
  obtain ⟨_, _, h0⟩ := hx 3 0 (by simp)
  obtain ⟨_, _, h1⟩ := hx 3 1 (by simp)
  rw [hc] at h0 h1
  obtain ⟨a, ea, _, wa⟩ := DataW.trod_int hi h0
  obtain ⟨b, eb, _, wb⟩ := DataW.trod_int hi h1
  simp at ea eb
  subst ea eb
  exact ⟨a, b, rfl, bounds_i64 wa, bounds_i64 wb⟩
theorem trod_vt (n : Nat) (cs : List Value) (y : DataW H × List MemPlace) (h : DataW.trod enc Try.prog w base spare held n 49 cs = some y) : ∃ v : Vt, cs = t3 v.id v.p.x v.p.y ∧ (In64 v.id ∧ In64 v.p.x ∧ In64 v.p.y) := by
  have hu : Try.prog.underlying 49 = some (.struct (Try.prog.fieldsOf 49)) := by kernel_rfl
  have hf : (Try.prog.fieldsOf 49).toList.map (fun f => (f.type, f.offset)) = [(3, 0), (47, 1)] := by kernel_rfl
  have hi : Try.prog.underlying 3 = some (.int .i64) := by kernel_rfl
  have hc : Try.prog.cellsOf 3 = 1 := by kernel_rfl
  have hc2 : Try.prog.cellsOf 47 = 2 := by kernel_rfl
  have hC : Try.prog.cellsOf 49 = 3 := by kernel_rfl
  obtain ⟨hl, hx⟩ := trod_flds hu hf h
  rw [hC] at hl
  obtain ⟨c0, c1, c2, rfl⟩ := len3 hl
  obtain ⟨_, _, h0⟩ := hx 3 0 (by simp)
  obtain ⟨_, _, h1⟩ := hx 47 1 (by simp)
  rw [hc] at h0
  rw [hc2] at h1
  obtain ⟨a, ea, _, wa⟩ := DataW.trod_int hi h0
  obtain ⟨b, c, eb, wb, wc⟩ := trod_pt h1
  simp at ea eb
  obtain ⟨e1, e2⟩ := eb
  subst ea e1 e2
  exact ⟨⟨a, ⟨b, c⟩⟩, rfl, bounds_i64 wa, wb, wc⟩
theorem trod_eg (n : Nat) (cs : List Value) (y : DataW H × List MemPlace) (h : DataW.trod enc Try.prog w base spare held n 79 cs = some y) : ∃ v : Eg, cs = t3 v.id v.a v.b ∧ (In64 v.id ∧ In64 v.a ∧ In64 v.b) := by
  have hu : Try.prog.underlying 79 = some (.struct (Try.prog.fieldsOf 79)) := by kernel_rfl
  have hf : (Try.prog.fieldsOf 79).toList.map (fun f => (f.type, f.offset)) = [(3, 0), (3, 1), (3, 2)] := by kernel_rfl
  have hi : Try.prog.underlying 3 = some (.int .i64) := by kernel_rfl
  have hc : Try.prog.cellsOf 3 = 1 := by kernel_rfl
  have hC : Try.prog.cellsOf 79 = 3 := by kernel_rfl
  obtain ⟨hl, hx⟩ := trod_flds hu hf h
  rw [hC] at hl
  obtain ⟨c0, c1, c2, rfl⟩ := len3 hl
  obtain ⟨_, _, h0⟩ := hx 3 0 (by simp)
  obtain ⟨_, _, h1⟩ := hx 3 1 (by simp)
  obtain ⟨_, _, h2⟩ := hx 3 2 (by simp)
  rw [hc] at h0 h1 h2
  obtain ⟨a, ea, _, wa⟩ := DataW.trod_int hi h0
  obtain ⟨b, eb, _, wb⟩ := DataW.trod_int hi h1
  obtain ⟨c, ec, _, wc⟩ := DataW.trod_int hi h2
  simp at ea eb ec
  subst ea eb ec
  exact ⟨⟨a, b, c⟩, rfl, bounds_i64 wa, bounds_i64 wb, bounds_i64 wc⟩
theorem row_sl {A : Option Addr} {xs : List Value} (h : Row w A xs) : Sl (fun _ => False) w A xs := by
  by_cases hp : 0 < xs.length
  · obtain ⟨b, off, rfl, hc⟩ := h hp
    have h0 := hc 0 _ (List.getElem?_eq_getElem hp)
    exact ⟨b, off, fun _ => ⟨rfl, World.block_lt_of_cell? w _ h0, id⟩, hc⟩
  · have : xs = [] := by cases xs with | nil => rfl | cons => simp at hp
    subst this
    exact Sl.nil_ _ _ _
/-- What is handed over in an argument that is a plan. -/
structure PlArg (w : World) (A A2 : Option Addr) (c c2 : Nat) (vs : List Vt) (es : List Eg) : Prop where
  sv : Sl (fun _ => False) w A (vR vs)
  se : Sl (fun _ => False) w A2 (eR es)
  cv : vs.length ≤ c ∧ c ≤ maxLen
  ce : es.length ≤ c2 ∧ c2 ≤ maxLen
  wv : ∀ v ∈ vs, In64 v.id ∧ In64 v.p.x ∧ In64 v.p.y
  we : ∀ e ∈ es, In64 e.id ∧ In64 e.a ∧ In64 e.b
theorem open_plan {r : Reach} {b0 : Nat} {v : Value} {d : DataW H} {p : List MemPlace} (hv : Value.okWide Try.prog w r b0 25 v) (h : DataW.Trod enc Try.prog w base spare held 25 v d p) :
    ∃ A A2 c c2 vs es, v = .agg #[.slice A (vs : List Vt).length c, .slice A2 (es : List Eg).length c2] ∧ PlArg w A A2 c c2 vs es := by
  have hu : Try.prog.underlying 25 = some (.struct (Try.prog.fieldsOf 25)) := by kernel_rfl
  have hf : (Try.prog.fieldsOf 25).toList.map (fun f => (f.type, f.offset)) = [(22, 0), (23, 1)] := by kernel_rfl
  have hC : Try.prog.cellsOf 25 = 2 := by kernel_rfl
  have hc1 : Try.prog.cellsOf 22 = 1 := by kernel_rfl
  have hc2 : Try.prog.cellsOf 23 = 1 := by kernel_rfl
  have hs1 : Try.prog.underlying 22 = some (.slice 49) := by kernel_rfl
  have hs2 : Try.prog.underlying 23 = some (.slice 79) := by kernel_rfl
  simp only [Value.okWide, hu] at hv
  obtain ⟨cs, rfl, hsz, _⟩ := hv
  obtain ⟨fuel, hx⟩ := h
  obtain ⟨hl, hx⟩ := trod_flds hu hf hx
  rw [hC] at hsz
  obtain ⟨l⟩ := cs
  simp only [List.size_toArray] at hsz
  obtain ⟨e0, e1, rfl⟩ := len2 hsz
  obtain ⟨_, _, h0⟩ := hx 22 0 (by simp)
  obtain ⟨_, _, h1⟩ := hx 23 1 (by simp)
  rw [hc1] at h0
  rw [hc2] at h1
  obtain ⟨A, c, vs, k1, k2, k3, k4, k5⟩ := trod_rows hs1 (by kernel_rfl) (fun _ => rfl) trod_vt h0
  obtain ⟨A2, c2, es, l1, l2, l3, l4, l5⟩ := trod_rows hs2 (by kernel_rfl) (fun _ => rfl) trod_eg h1
  simp [Value.cells] at k1 l1
  subst k1 l1
  exact ⟨A, A2, c, c2, vs, es, rfl, row_sl k5, row_sl l5, ⟨k2, k3⟩, ⟨l2, l3⟩, k4, l4⟩
theorem open_pt {r : Reach} {b0 : Nat} {v : Value} {d : DataW H} {p : List MemPlace} (hv : Value.okWide Try.prog w r b0 47 v) (h : DataW.Trod enc Try.prog w base spare held 47 v d p) :
    ∃ a b, v = pV a b ∧ In64 a ∧ In64 b := by
  have hu : Try.prog.underlying 47 = some (.struct (Try.prog.fieldsOf 47)) := by kernel_rfl
  simp only [Value.okWide, hu] at hv
  obtain ⟨cs, rfl, hsz, _⟩ := hv
  obtain ⟨fuel, hx⟩ := h
  obtain ⟨a, b, e, wa, wb⟩ := trod_pt hx
  obtain ⟨l⟩ := cs
  simp [Value.cells] at e
  subst e
  exact ⟨a, b, rfl, wa, wb⟩
end
end Go.Proofs.Ytlhmjhildlnokaa

/-
  Resources: a slice grows by what stands in another slice of the call's own. Nothing of the program stands here.
-/
namespace Go.Proofs.Ytlhmjhildlnokaa
set_option linter.unusedVariables false
open Go.RowKit
variable {P : Program} {B : Nat} {w0 w w' : World} {l l' : List Res} {o : Oper} {a : Act} {Q : Exit → Act → World → Prop}
/-- A slice of the call's own, as it is handed to a function that only reads. -/
theorem Own.slGrow {e size n c : Nat} {A : Option Addr} {xs : List Value} (H : Own B w0 w l) (hm : Res.grow e size (.slice A n c) n xs ∈ l) : Sl (fun _ => False) w A xs := by
  obtain ⟨A', cap, h, _, _, hs⟩ := H.giveGrow hm (F := fun _ => False) (fun _ h => h.elim)
  injection h with h1 h2 h3
  rw [h1]; exact hs
theorem o_appendS {K : Act → World → Prop} {s x' : Operand} {t e : TypeId} {z : Value} {size bytes : Nat} {v : Value} {n m c : Nat} {A : Option Addr} {xs news : List Value} {l' : Value → List Res} (hinfo : (P.info? e).map (fun i => (i.zero, i.size, i.bytes)) = some (some z, size, bytes))
    (ho : o.op = .call { callee := .builtin .append, args := #[s, x'], argTypes := #[t, t] }) (hs : a.eval s = v) (hx : a.eval x' = .slice A m c) (H : Own B w0 w l)
    (hSl : Sl (fun _ => False) w A news) (hl : news.length = m * size)
    (hrep : ∀ v', Rep (.grow e size v n xs) (.grow e size v' (n + m) (xs ++ news)) l (l' v')) (ht : P.underlying t = some (.slice e)) (hzs : z.cells.size = size) (hsz : 0 < size) (h1 : news.all (·.oneCell') = true)
    (h63 : n + m ≤ maxLen) (hbytes : (n + m) * bytes ≤ 140737488355328)
    (hk : ∀ v' w', Own B w0 w' (l' v') → (v' = .slice none 0 0 ↔ v = .slice none 0 0 ∧ m = 0) → K (a.put o.dst v') w') : o.wp P a w K Q := by
  cases hi : P.info? e with
  | none => simp [hi] at hinfo
  | some i =>
    simp only [hi, Option.map_some, Option.some.injEq, Prod.mk.injEq] at hinfo
    obtain ⟨hz, rfl, rfl⟩ := hinfo
    have hg := H.holds _ (hrep v).mem
    have hgl := H.lt _ (hrep v).mem
    obtain ⟨bb, off, hr1, hr2⟩ := hSl
    have hr : (0 < news.length → A = some ⟨bb, off, none⟩) ∧ ∀ j v, news[j]? = some v → w.cell? ⟨bb, off + j, none⟩ = some v := ⟨fun hp => (hr1 hp).1, hr2⟩
    have h1' : ∀ u ∈ news, u.oneCell' = true := fun u hu => List.all_eq_true.1 h1 u hu
    have key : ∃ v' w', (Builtin.append_ #[t, t] o.type #[v, .slice A m c]).run P w = .ok v' w' ∧ w'.ownsRow 0 e i.size v' (n + m) (xs ++ news) ∧ (∀ k, k < w.heap.size → v.ownBlock ≠ some k → w'.heap[k]? = w.heap[k]?) ∧ Below B w w' ∧
        (v' = .slice none 0 0 ↔ v = .slice none 0 0 ∧ m = 0) ∧ ∀ k, v'.ownBlock = some k → v.ownBlock = some k ∨ w.heap.size ≤ k := by
      have hold : ∀ k, v.ownBlock = some k → k < w.heap.size ∧ B ≤ k := fun k hk => ⟨(hgl k hk).1, (hgl k hk).2 rfl⟩
      cases A with
      | none =>
        have h0 : m = 0 := by
          by_cases hp : 0 < news.length
          · have := hr.1 hp; cases this
          · have : m * i.size = 0 := by omega
            rcases Nat.mul_eq_zero.1 this with h | h
            · exact h
            · omega
        subst h0
        have hn : news = [] := List.eq_nil_of_length_eq_zero (by omega)
        subst hn
        refine ⟨v, w, run_append_none ht hi hg c, by rw [Nat.add_zero, List.append_nil]; exact hg, fun _ _ _ => rfl, Below.refl _ _, by simp, fun k hk => .inl hk⟩
      | some ad =>
        have hnews : ∀ j u, news[j]? = some u → w.cell? (ad.add j) = some u := fun j u hu => by
          have hp : 0 < news.length := Nat.lt_of_le_of_lt (Nat.zero_le _) (List.getElem?_eq_some_iff.1 hu).1
          have := hr.1 hp
          injection this with this
          rw [this, Addr.add_mid]
          exact hr.2 j u hu
        obtain ⟨v', w', hrun, hown, hgrow, hnil⟩ := run_append_own (P := P) w 0 t o.type e i z _ _ ht hi hz rfl rfl hzs hsz v n xs hg ad m c news hl hnews h1' h63 hbytes (Nat.zero_le _)
        have hplace := append_place ht hi hz hg hl hnews h1' h63 hbytes hrun
        exact ⟨v', w', hrun, hown, fun k hk hne => hgrow.block k hk (fun e => hne e.symm), (.mk6 hgrow.os hgrow.tape hgrow.output hgrow.size (fun k hk' => hgrow.block k (Nat.lt_of_lt_of_le hk' H.base) (fun e => by have := (hold k e.symm).2; omega)) (append_drawn ht hi hz hg hl hnews h1' h63 hbytes hrun)), hnil, hplace⟩
    obtain ⟨v', w', hrun, hown, hblk, hbel, hnil, hplace⟩ := key
    unfold Oper.wp execOp
    simp only [ho, resolve, invoke, builtin, Sem.run_bind, Sem.run_pure, Result.andThen_ok, List.map_toArray, List.map_cons, List.map_nil, hs, hx, hrun]
    refine hk v' w' ?_ hnil
    exact H.change (hrep v') rfl rfl hbel (fun k hk' hne => hblk k hk' hne) hown (fun k hk' => (hown.lt k hk').2) hplace
end Go.Proofs.Ytlhmjhildlnokaa
