/-
  The walk of the index's Add.
-/
import Derived.Test.YtlhmjhildlnokaaMca9acae9
import Derived.Test.YtlhmjhildlnokaaBase
import Derived.Test.YtlhmjhildlnokaaPlan0
import Derived.ChangeArms
import Derived.Test.YtlhmjhildlnokaaChecked
import Derived.Test.YtlhmjhildlnokaaSigns
namespace Go.Proofs.Ytlhmjhildlnokaa
set_option linter.unusedVariables false
set_option linter.unusedSimpArgs false
open Go.RowKit Go.Sort Go.Shelf

/-- An edge that isn't the one asked for: is its line there? -/
def hasE (vs : List Vt) (S : List (Int × Sg)) (edge : Int) (e : Eg) : Bool := e.id == edge || decide (getA S e.id = some (segZ vs e.a e.b))
def othersN (es : List Eg) (edge : Int) : Nat := es.countP fun e => !(e.id == edge)
def addZ (vs : List Vt) (es : List Eg) (S : List (Int × Sg)) (edge : Int) : Int :=
  if rightB vs es = false ∨ es.all (hasE vs S edge) = false ∨ othersN es edge + (if (getA S edge).isSome then 1 else 0) ≠ S.length then 1
  else if (es.find? fun e => e.id == edge).isSome = false then 6 else if (getA S edge).isSome then 7 else 0
theorem others_step {es : List Eg} {edge : Int} {j : Nat} {e : Eg} (h : es[j]? = some e) : othersN (es.take (j + 1)) edge = othersN (es.take j) edge + (if e.id == edge then 0 else 1) := by
  unfold othersN
  rw [List.take_add_one, h, List.countP_append]
  cases hh : e.id == edge <;> simp [hh]
theorem allE_step {α : Type} {f : α → Bool} {l : List α} {j : Nat} {a : α} (h : l[j]? = some a) : (l.take (j + 1)).all f = ((l.take j).all f && f a) := by
  rw [List.take_add_one, h, List.all_append]; simp
theorem allE_take {α : Type} {f : α → Bool} {l : List α} {j : Nat} (h : (l.take j).all f = false) : l.all f = false := by
  rw [List.all_eq_false] at h ⊢
  obtain ⟨x, h1, h2⟩ := h
  exact ⟨x, List.mem_of_mem_take h1, h2⟩
set_option maxRecDepth 100000 in
set_option maxHeartbeats 8000000 in
theorem addN_any (v : Value) (edge : Int) (w : World) : Calls Try.prog 44 #[.pointer none, v, .int .i64 edge] w fun e w' => e = .returned (.int .i64 1) ∧ Below w.heap.size w w' := by
  have H := Own.start w
  go_enter Try.func44, Try.ntmps44
  have tk0 : True := trivial
  go_wp2_with (first
    | go_big_skip
    | (guard_target =~ wpList _ _ _ (_ :: _) _ _; ((guard_target =~ wpList _ _ _ (Oper.mk _ (.box _ _) _ _ _ _ :: _) _ _; refine BigFrame.wpList_want rfl (fun K hK => ?_); refine o_box rfl H rfl (fun w3 b2 he H2 => hK _ _ ?_)); clear hK K he; clear H; (try clear w2); revert w3; intro w2 H; simp [Act.eval, Value.cells, setL, List.getD] at H; (clear tk0; rename Nat => b1)); simp only [Act.put, List.setIfInBounds_toArray, List.set_cons_succ, List.set_cons_zero]))
  go_ret
  exact ⟨rfl, H.below⟩
theorem add_right {vs : List Vt} {es : List Eg} {S : List (Int × Sg)} {edge : Int} (h : rightB vs es = false) : addZ vs es S edge = 1 := by unfold addZ; rw [if_pos (.inl h)]
theorem add_other {vs : List Vt} {es : List Eg} {S : List (Int × Sg)} {edge : Int} (h : es.all (hasE vs S edge) = false) : addZ vs es S edge = 1 := by unfold addZ; rw [if_pos (.inr (.inl h))]
theorem add_count {vs : List Vt} {es : List Eg} {S : List (Int × Sg)} {edge : Int} (h : othersN es edge + (if (getA S edge).isSome then 1 else 0) ≠ S.length) : addZ vs es S edge = 1 := by unfold addZ; rw [if_pos (.inr (.inr h))]
theorem add_rest {vs : List Vt} {es : List Eg} {S : List (Int × Sg)} {edge : Int} (h1 : rightB vs es = true) (h2 : es.all (hasE vs S edge) = true) (h3 : othersN es edge + (if (getA S edge).isSome then 1 else 0) = S.length) :
    addZ vs es S edge = if (es.find? fun e => e.id == edge).isSome = false then 6 else if (getA S edge).isSome then 7 else 0 := by
  unfold addZ; rw [if_neg]
  rw [h1, h2]
  simp [h3]
theorem others_le (es : List Eg) (edge : Int) (j : Nat) : othersN (es.take j) edge ≤ j := by
  unfold othersN
  exact Nat.le_trans List.countP_le_length (by rw [List.length_take]; omega)
set_option maxRecDepth 100000 in
set_option maxHeartbeats 16000000 in
theorem add_any {B : Nat} {w0 w : World} {l : List Res} {bx ks ke cn cp dn dp : Nat} {X : IxS} {L : List (Int × Sg)} (vs : List Vt) (es : List Eg) (edge : Int) (A A2 : Option Addr) (n m : Nat) (c c2 : Nat) (F : Nat → Prop) (hn : n = vs.length) (hm : m = es.length) (hL : PutsR L X) (hLl : addZ vs es X.S edge = 0 → L.length < 40) (hSl : X.S.length ≤ 40)
    (H : Own B w0 w (xL bx ks ke cn cp dn dp X l)) (hs : Sl (FW F (xL bx ks ke cn cp dn dp X l)) w A (vR vs)) (hs2 : Sl (FW F (xL bx ks ke cn cp dn dp X l)) w A2 (eR es)) (hl : n ≤ 1000000) (hl2 : m ≤ 40) (hc2 : m ≤ c2) (hcc : c2 ≤ maxLen) :
    Calls Try.prog 44 #[.pointer (some ⟨bx, 0, none⟩), .agg #[.slice A n c, .slice A2 m c2], .int .i64 edge] w fun e w' => e = .returned (.int .i64 (addZ vs es X.S edge)) ∧
      (addZ vs es X.S edge ≠ 0 → Own B w0 w' (xL bx ks ke cn cp dn dp X l)) ∧ (addZ vs es X.S edge = 0 → ∃ Y dn' dp' cn' cp', PutsR ((edge, segI vs es edge) :: L) Y ∧ Own B w0 w' (xL bx ks ke cn' cp' dn' dp' Y l)) := by
  obtain ⟨b0, o0, H1, f0⟩ := H.addSl hs
  replace hs2 := H1.moreRo rfl hs2
  clear H
  obtain ⟨b9, o9, H, f9⟩ := H1.addSl hs2
  clear hs hs2 H1
  have HN := Lib.hid hn
  have HM := Lib.hid hm
  have HL := Lib.hid hL
  have HLL := Lib.hid hLl
  have h1 := fun F w a b => right_any vs es A A2 n m c c2 F w hn hm a b hl (by omega) hc2 hcc
  have h2 := fun F w a => edge_any es A2 A m n c2 c F edge w hm a (by omega)
  have h3 := fun F w a x y i => segOf_any vs A A2 n m c c2 F i x y w hn a hl
  have hg := eqSg_guard
  cases hr : rightB vs es
  · have hz := add_right (es := es) (S := X.S) (edge := edge) hr
    rw [hr] at h1
    rw [hz]
    clear h2 h3 hn hm hL hLl
    go_enter Try.func44, Try.ntmps44
    have tk0 : True := trivial
    go_wp2_with (first
      | (go_at_call 25; (with_reducible refine (h1 _ _ (by exact H.giveRd m2 f0) (by exact H.giveRd m1 f9)).mono ?_); rintro e w3 ⟨rfl, hb⟩; replace H := H.ext hb; clear hb; dsimp only)
      | (guard_target =~ wpList _ _ _ (_ :: _) _ _; (first | (guard_target =~ wpList _ _ _ (Oper.mk _ (.load _ _) _ _ _ _ :: _) _ _; refine BigFrame.wpList_want rfl (fun K hK => ?_); (refine o_loadNC (row := ?_) rfl rfl H ?_ ?_ ?_ (hK _ _ ?_); rotate_left 1; (repeat first | exact .head _ | apply List.Mem.tail); (focus (intro _; simp; done)); (focus (intro _; simp; done))); clear hK K) | ((guard_target =~ wpList _ _ _ (Oper.mk _ (.box _ _) _ _ _ _ :: _) _ _; refine BigFrame.wpList_want rfl (fun K hK => ?_); refine o_box rfl H rfl (fun w3 b2 he H2 => hK _ _ ?_)); clear hK K he; clear H; (try clear w2); revert w3; intro w2 H; simp [Act.eval, Value.cells, setL, List.getD] at H; (clear tk0; rename Nat => b1))); simp only [Act.put, List.setIfInBounds_toArray, List.set_cons_succ, List.set_cons_zero]))
    go_ret
    exact ⟨rfl, fun _ => (H.sub (by repeat first | exact List.Sublist.refl _ | apply List.Sublist.cons_cons | apply List.Sublist.cons)), fun h => absurd h (by decide)⟩
  have hends : ∀ i x y, (⟨i, x, y⟩ : Eg) ∈ es → (vs.find? fun v => v.id == x).isSome = true ∧ (vs.find? fun v => v.id == y).isSome = true := fun i x y h => ((rightT_P hr).each _ h).2.1.2
  rw [hr] at h1
  have HE := Lib.hid hends
  have HR := Lib.hid hr
  clear hends hr hn hm hL hLl
  go_enter Try.func44, Try.ntmps44
  have tk0 : True := trivial
  go_wp2_with (first
    | (go_at_call 25; (with_reducible refine (h1 _ _ (by exact H.giveRd m2 f0) (by exact H.giveRd m1 f9)).mono ?_); rintro e w3 ⟨rfl, hb⟩; replace H := H.ext hb; clear hb; dsimp only)
    | (guard_target =~ wpList _ _ _ (_ :: _) _ _; (first | (guard_target =~ wpList _ _ _ (Oper.mk _ (.load _ _) _ _ _ _ :: _) _ _; refine BigFrame.wpList_want rfl (fun K hK => ?_); (first | (refine o_loadC (v := ?_) (row := ?_) rfl rfl H ?_ ?_ ?_ (hK _ _ ?_); rotate_left 2; (repeat first | exact .head _ | apply List.Mem.tail); (exact rfl); (focus (intro _; simp; done))) | (refine o_loadNC (row := ?_) rfl rfl H ?_ ?_ ?_ (hK _ _ ?_); rotate_left 1; (repeat first | exact .head _ | apply List.Mem.tail); (focus (intro _; simp; done)); (focus (intro _; simp; done)))); clear hK K) | ((guard_target =~ wpList _ _ _ (Oper.mk _ (.box _ _) _ _ _ _ :: _) _ _; refine BigFrame.wpList_want rfl (fun K hK => ?_); refine o_box rfl H rfl (fun w3 b2 he H2 => hK _ _ ?_)); clear hK K he; clear H; (try clear w2); revert w3; intro w2 H; simp [Act.eval, Value.cells, setL, List.getD] at H; (clear tk0; rename Nat => b1))); simp only [Act.put, List.setIfInBounds_toArray, List.set_cons_succ, List.set_cons_zero]))
  go_loopg [26, 7] m (fun k i u wr => k ≤ m ∧ i = .int .i64 ((m - k : Nat) : Int) ∧ u = .int .i64 ((othersN (es.take (m - k)) edge : Nat) : Int) ∧ (es.take (m - k)).all (hasE vs X.S edge) = true ∧ Own B w0 wr (.cells b1 [.slice A n c, .slice A2 m c2] :: .rd A2 b9 o9 (eR es) :: .rd A b0 o0 (vR vs) :: xL bx ks ke cn cp dn dp X l))
  case atStart => exact ⟨Nat.le_refl _, by simp, by simp [othersN], by simp, H⟩
  case round =>
    clear H
    obtain ⟨hk, rfl, rfl, ha, H⟩ := hrel
    by_cases hlt : 0 < gk
    · obtain ⟨j, hj⟩ : ∃ j, m - gk = j := ⟨_, rfl⟩
      have hjl : j < m := by omega
      rw [hj] at ha ⊢
      have hnj := others_le es edge j
      obtain ⟨i, x, y, he⟩ := eg_at es (by have := HM.out; omega : j < es.length)
      have has := allE_step (f := hasE vs X.S edge) he
      obtain rfl := H.rdAddr m1 (eR_pos he)
      have hp := at_e (A := some ⟨b9, o9, none⟩) (b := b9) (off := o9) he
      obtain ⟨v1, hv1⟩ : ∃ v, (i == edge) = v := ⟨_, rfl⟩
      have ho : othersN (es.take (j + 1)) edge = othersN (es.take j) edge + (if v1 then 0 else 1) := by rw [others_step he]; simp only [hv1]
      obtain ⟨hx, hy⟩ := HE.out i x y (List.mem_of_getElem? he)
      have h5 := fun F w a => h3 F w a x y i hx hy
      rw [ha, Bool.true_and] at has
      generalize othersN (es.take j) edge = q at ho hnj ⊢
      have HHE : Hid (hasE vs X.S edge ⟨i, x, y⟩ = (v1 || decide (getA X.S i = some (segZ vs x y)))) := Lib.hid (by unfold hasE; simp only [hv1])
      have HO := Lib.hid ho
      have HAS := Lib.hid has
      have HJ := Lib.hid hj
      clear ho has hj he ha hx hy
      cases v1
      · obtain ⟨⟨⟨ux, uy⟩, ⟨vx, vy⟩⟩, hseg⟩ : ∃ s, segZ vs x y = s := ⟨_, rfl⟩
        rw [hseg] at h5 HHE
        cases hs0 : getA X.S i with
        | none =>
          have hz : addZ vs es X.S edge = 1 := add_other (allE_take (j := j + 1) (by rw [HAS.out, HHE.out, hs0]; simp))
          have HZ := Lib.hid hz
          clear hseg hz
          have tk0 : True := trivial
          have tk1 : True := trivial
          go_wp2_with (first
            | (guard_target =~ Code.wp _ (Code.region 8 _ true) _ _ _; refine region_treeC0 8 (G := True) (.q 0 (.q 1 (.q 2 (.q 3 (.q 4 (.q 5 (.q 6 (.q 7 (.q 8 (.q 9 (.e 10 (.e 11 (.q 12 .nil))))))))))))) (by kernel_rfl) (by intro c a d v w h; cases d <;> first | exact h | exact hQ h) (by kernel_rfl) H ⟨trivial⟩ (fun _ w3 H2 => ?_); (clear H; (try clear w2); revert w3; intro w2 H))
            | (guard_target =~ Code.wp _ (Code.region 9 _ true) _ _ _; refine region_treeC0 9 (G := True) (.q 0 (.q 1 (.q 2 (.q 3 (.q 4 (.q 5 (.q 6 (.q 7 (.q 8 .nil))))))))) (by kernel_rfl) (by intro c a d v w h; cases d <;> first | exact h | exact hQ h) (by kernel_rfl) H ⟨trivial⟩ (fun _ w3 H2 => ?_); (clear H; (try clear w2); revert w3; intro w2 H))
            | (guard_target =~ wpList _ _ _ (_ :: _) _ _; (first | (guard_target =~ wpList _ _ _ (Oper.mk _ (.load _ _) _ _ _ _ :: _) _ _; refine BigFrame.wpList_want rfl (fun K hK => ?_); (first | (refine o_loadC (v := ?_) (row := ?_) rfl rfl H ?_ ?_ ?_ (hK _ _ ?_); rotate_left 2; (repeat first | exact .head _ | apply List.Mem.tail); (exact rfl); (focus (intro _; simp [hs0]; done))) | (refine o_loadN (cs := ?_) (r := ?_) rfl rfl H ?_ ?_ ?_ ?_ (hK _ _ ?_); rotate_left 2; (with_reducible assumption); (repeat first | exact .head _ | apply List.Mem.tail); (focus (intro _; simp [hs0]; done)); (focus (intro _; simp [hs0]; done)))); clear hK K) | (guard_target =~ wpList _ _ _ (Oper.mk _ (.store _ _ _) _ _ _ _ :: _) _ _; refine BigFrame.wpList_want rfl (fun K hK => ?_); refine o_store (l' := ?_) (row := ?_) rfl rfl H rfl ?_ ?_ ?_ ?_ (fun w3 H2 => hK _ _ ?_); rotate_left 2; (exact r0); (focus (intro _; (simp [Act.eval, Value.cells, List.getD, hs0]; done))); (focus (simp [Act.eval, Value.cells, List.getD, hs0]; done)); (exact rfl); clear hK K; clear H; (try clear w2); revert w3; intro w2 H; (try simp [Act.eval, List.getD, hs0] at H); (try simp [Value.cells, setL, hs0] at H)) | ((guard_target =~ wpList _ _ _ (Oper.mk _ (.alloc _) _ _ _ _ :: _) _ _; refine BigFrame.wpList_want rfl (fun K hK => ?_); refine o_alloc (z := ?_) rfl ?_ H rfl (fun w3 b2 he H2 => hK _ _ ?_); rotate_left 1; (focus (intro _; simp; with_reducible exact rfl))); clear hK K he; clear H; (try clear w2); revert w3; intro w2 H; (try simp [Act.eval, List.getD, hs0] at H); (try simp [Value.cells, setL, hs0] at H); (clear tk0; rename Nat => b2))); simp only [Act.put, List.setIfInBounds_toArray, List.set_cons_succ, List.set_cons_zero, hs0])
            | (guard_target =~ wpTreeC _ _ _ _ _ _ _; first | (guard_target =~ wpTreeC _ _ _ (Tr.e _ Tr.nil) _ _ _; refine treeC_last (by decide +kernel) H rfl rfl (fun w3 H2 K hK => ?_); clear H; (try clear w2); (revert w3; intro w2 H); simp only [List.getElem_toArray, List.getElem_cons_succ, List.getElem_cons_zero]; (first | fail); simp only [Act.put, List.setIfInBounds_toArray, List.set_cons_succ, List.set_cons_zero, hs0]) | (guard_target =~ wpTreeC _ _ _ (Tr.q _ _) _ _ _; first | (refine treeC_quiet ⟨_, H, by repeat first | exact .here | apply Suf.there⟩ rfl rfl rfl (fun K hK => ?_); simp only [List.getElem_toArray, List.getElem_cons_succ, List.getElem_cons_zero]; first | (guard_target =~ Oper.quiet _ (Oper.mk _ (.lookup _ _ _ false) _ _ _ _) _ _ _; refine q_segGet (m := ?_) rfl rfl rfl ?_ (hK _ ?_); rotate_left 1; (repeat first | exact .head _ | apply List.Mem.tail); clear hK K; simp only [Act.put, List.setIfInBounds_toArray, List.set_cons_succ, List.set_cons_zero, hs0]) | (guard_target =~ Oper.quiet _ (Oper.mk _ (.lookup _ _ _ true) _ _ _ _) _ _ _; refine q_segOk (m := ?_) rfl rfl rfl ?_ (hK _ ?_); rotate_left 1; (repeat first | exact .head _ | apply List.Mem.tail); clear hK K; simp only [Act.put, List.setIfInBounds_toArray, List.set_cons_succ, List.set_cons_zero, hs0]) | (guard_target =~ Oper.quiet _ (Oper.mk _ (.load _ _) _ _ _ _) _ _ _; (refine q_loadC (v := ?_) (row := ?_) rfl rfl ?_ ?_ ?_ (hK _ ?_); rotate_left 2; (repeat first | exact .head _ | apply List.Mem.tail); (exact rfl); (focus (intro _; simp [hs0]; done))); clear hK K; simp only [Act.put, List.setIfInBounds_toArray, List.set_cons_succ, List.set_cons_zero, hs0]) | (go_big_quiet_op; (try refine ⟨_, fun _ _ => rfl, ?_⟩); refine hK _ ?_; clear hK K)) | (refine treeC_call (v := ?_) ⟨_, H, by repeat first | exact .here | apply Suf.there⟩ rfl rfl (fun w3 H K hK => ?_) ?_; rotate_left 1; (focus (simp only [List.getElem_toArray, List.getElem_cons_succ, List.getElem_cons_zero]; first | (refine o_segLen (m := ?_) rfl H ?_ ?_; rotate_left 1; (repeat first | exact .head _ | apply List.Mem.tail); exact hK _ (Ext.refl _)) | (go_big_op; first | exact hK _ (Ext.refl _) | (go_at_call 63; (with_reducible refine (h5 _ _ (by first | fail)).mono ?_); rintro e w3 ⟨rfl, hb⟩; dsimp only; first | exact hK _ hb | exact hK _ (Ext.refl _))))); simp only [List.getElem_toArray, List.getElem_cons_succ, List.getElem_cons_zero, Act.put, List.setIfInBounds_toArray, List.set_cons_succ, List.set_cons_zero, hs0]) | (refine treeC_skip ⟨_, H, by repeat first | exact .here | apply Suf.there⟩ rfl rfl ?_; simp only [List.getElem_toArray, List.getElem_cons_succ, List.getElem_cons_zero, Act.put, List.setIfInBounds_toArray, List.set_cons_succ, List.set_cons_zero, hs0])) | (guard_target =~ wpTreeC _ _ _ (Tr.both _ _) _ _ _; refine treeC_both ?_ ?_) | (guard_target =~ wpTreeC _ _ _ (Tr.e _ _) _ _ _; first | (refine treeC_one H rfl rfl (fun w3 H2 K hK => ?_); clear H; (try clear w2); (revert w3; intro w2 H); simp only [List.getElem_toArray, List.getElem_cons_succ, List.getElem_cons_zero]; first | ((first | (guard_target =~ Oper.wp _ (Oper.mk _ (.store _ _ _) _ _ _ _) _ _ _ _; refine o_store (l' := ?_) (row := ?_) rfl rfl H rfl ?_ ?_ ?_ ?_ (fun w3 H2 => hK _ _ ⟨_, H2, ?_⟩ ?_); rotate_left 2; (exact r0); (focus (intro _; (simp [Act.eval, Value.cells, List.getD, hs0]; done))); (focus (simp [Act.eval, Value.cells, List.getD, hs0]; done)); (exact rfl); (guard_target =~ Suf _ _; repeat first | exact .here | apply Suf.there); clear hK K; clear H; (try clear w2); revert w3; intro w2 H; (try simp [Act.eval, List.getD, hs0] at H); (try simp [Value.cells, setL, hs0] at H)) | ((guard_target =~ Oper.wp _ (Oper.mk _ (.alloc _) _ _ _ _) _ _ _ _; refine o_alloc (z := ?_) rfl ?_ H rfl (fun w3 b2 he H2 => hK _ _ ⟨_, H2, ?_⟩ ?_); rotate_left 1; (focus (intro _; simp; with_reducible exact rfl))); (guard_target =~ Suf _ _; repeat first | exact .here | apply Suf.there); clear hK K he; clear H; (try clear w2); revert w3; intro w2 H; (try simp [Act.eval, List.getD, hs0] at H); (try simp [Value.cells, setL, hs0] at H); (clear tk1; rename Nat => b3))); simp only [Act.put, List.setIfInBounds_toArray, List.set_cons_succ, List.set_cons_zero, hs0]) | (go_big_op; (first | fail))) | (refine treeC_one_skip (fun w3 hx => ⟨_, H.ext hx, by repeat first | exact .here | apply Suf.there⟩) rfl rfl (fun w3 hx => ?_); replace H := H.ext hx; clear hx; (try clear w2); revert w3; intro w2 H; simp only [List.getElem_toArray, List.getElem_cons_succ, List.getElem_cons_zero, Act.put, List.setIfInBounds_toArray, List.set_cons_succ, List.set_cons_zero, hs0])) | (guard_target =~ wpTreeC _ _ _ Tr.nil _ _ _; refine treeC_nil H (fun w3 H2 => ?_); clear H; (try clear w2); revert w3; intro w2 H)))
          go_ret
          exact ⟨by rw [HZ.out]; rfl, fun _ => (H.sub (by repeat first | exact List.Sublist.refl _ | apply List.Sublist.cons_cons | apply List.Sublist.cons)), fun h => absurd (HZ.out.symm.trans h) (by decide)⟩
        | some s0 =>
          obtain ⟨⟨ax, ay⟩, ⟨sx, sy⟩⟩ := s0
          have hq := fun w => eqSg_neq ⟨⟨ax, ay⟩, ⟨sx, sy⟩⟩ ⟨⟨ux, uy⟩, ⟨vx, vy⟩⟩ w
          simp only [sgV] at hq h5
          by_cases hd : (⟨⟨ax, ay⟩, ⟨sx, sy⟩⟩ : Sg) = ⟨⟨ux, uy⟩, ⟨vx, vy⟩⟩
          · rw [decide_eq_true hd, Bool.not_true] at hq
            have hte : hasE vs X.S edge ⟨i, x, y⟩ = true := by rw [HHE.out, hs0, hd]; simp
            have HTE := Lib.hid hte
            clear hseg hd hte
            have tk0 : True := trivial
            have tk1 : True := trivial
            go_wp2_with (first
              | (guard_target =~ Code.wp _ (Code.region 8 _ true) _ _ _; refine region_treeC0 8 (G := True) (.q 0 (.q 1 (.q 2 (.q 3 (.q 4 (.q 5 (.q 6 (.q 7 (.q 8 (.q 9 (.e 10 (.e 11 (.q 12 .nil))))))))))))) (by kernel_rfl) (by intro c a d v w h; cases d <;> first | exact h | exact hQ h) (by kernel_rfl) H ⟨trivial⟩ (fun _ w3 H2 => ?_); (clear H; (try clear w2); revert w3; intro w2 H))
              | (guard_target =~ Code.wp _ (Code.region 9 _ true) _ _ _; refine region_treeC0 9 (G := True) (.q 0 (.q 1 (.q 2 (.q 3 (.q 4 (.q 5 (.q 6 (.q 7 (.q 8 .nil))))))))) (by kernel_rfl) (by intro c a d v w h; cases d <;> first | exact h | exact hQ h) (by kernel_rfl) H ⟨trivial⟩ (fun _ w3 H2 => ?_); (clear H; (try clear w2); revert w3; intro w2 H))
              | (guard_target =~ wpList _ _ _ (_ :: _) _ _; (first | (guard_target =~ wpList _ _ _ (Oper.mk _ (.load _ _) _ _ _ _ :: _) _ _; refine BigFrame.wpList_want rfl (fun K hK => ?_); (first | (refine o_loadC (v := ?_) (row := ?_) rfl rfl H ?_ ?_ ?_ (hK _ _ ?_); rotate_left 2; (repeat first | exact .head _ | apply List.Mem.tail); (exact rfl); (focus (intro _; simp [hs0, hq]; done))) | (refine o_loadN (cs := ?_) (r := ?_) rfl rfl H ?_ ?_ ?_ ?_ (hK _ _ ?_); rotate_left 2; (with_reducible assumption); (repeat first | exact .head _ | apply List.Mem.tail); (focus (intro _; simp [hs0, hq]; done)); (focus (intro _; simp [hs0, hq]; done)))); clear hK K) | (guard_target =~ wpList _ _ _ (Oper.mk _ (.store _ _ _) _ _ _ _ :: _) _ _; refine BigFrame.wpList_want rfl (fun K hK => ?_); refine o_store (l' := ?_) (row := ?_) rfl rfl H rfl ?_ ?_ ?_ ?_ (fun w3 H2 => hK _ _ ?_); rotate_left 2; (exact r0); (focus (intro _; (simp [Act.eval, Value.cells, List.getD, hs0, hq]; done))); (focus (simp [Act.eval, Value.cells, List.getD, hs0, hq]; done)); (exact rfl); clear hK K; clear H; (try clear w2); revert w3; intro w2 H; (try simp [Act.eval, List.getD, hs0, hq] at H); (try simp [Value.cells, setL, hs0, hq] at H)) | ((guard_target =~ wpList _ _ _ (Oper.mk _ (.alloc _) _ _ _ _ :: _) _ _; refine BigFrame.wpList_want rfl (fun K hK => ?_); refine o_alloc (z := ?_) rfl ?_ H rfl (fun w3 b2 he H2 => hK _ _ ?_); rotate_left 1; (focus (intro _; simp; with_reducible exact rfl))); clear hK K he; clear H; (try clear w2); revert w3; intro w2 H; (try simp [Act.eval, List.getD, hs0, hq] at H); (try simp [Value.cells, setL, hs0, hq] at H); (clear tk0; rename Nat => b2))); simp only [Act.put, List.setIfInBounds_toArray, List.set_cons_succ, List.set_cons_zero, hs0, hq])
              | (guard_target =~ wpTreeC _ _ _ _ _ _ _; first | (guard_target =~ wpTreeC _ _ _ (Tr.e _ Tr.nil) _ _ _; refine treeC_last (by decide +kernel) H rfl rfl (fun w3 H2 K hK => ?_); clear H; (try clear w2); (revert w3; intro w2 H); simp only [List.getElem_toArray, List.getElem_cons_succ, List.getElem_cons_zero]; (first | fail); simp only [Act.put, List.setIfInBounds_toArray, List.set_cons_succ, List.set_cons_zero, hs0, hq]) | (guard_target =~ wpTreeC _ _ _ (Tr.q _ _) _ _ _; first | (refine treeC_quiet ⟨_, H, by repeat first | exact .here | apply Suf.there⟩ rfl rfl rfl (fun K hK => ?_); simp only [List.getElem_toArray, List.getElem_cons_succ, List.getElem_cons_zero]; first | (guard_target =~ Oper.quiet _ (Oper.mk _ (.lookup _ _ _ false) _ _ _ _) _ _ _; refine q_segGet (m := ?_) rfl rfl rfl ?_ (hK _ ?_); rotate_left 1; (repeat first | exact .head _ | apply List.Mem.tail); clear hK K; simp only [Act.put, List.setIfInBounds_toArray, List.set_cons_succ, List.set_cons_zero, hs0, hq]) | (guard_target =~ Oper.quiet _ (Oper.mk _ (.lookup _ _ _ true) _ _ _ _) _ _ _; refine q_segOk (m := ?_) rfl rfl rfl ?_ (hK _ ?_); rotate_left 1; (repeat first | exact .head _ | apply List.Mem.tail); clear hK K; simp only [Act.put, List.setIfInBounds_toArray, List.set_cons_succ, List.set_cons_zero, hs0, hq]) | (guard_target =~ Oper.quiet _ (Oper.mk _ (.load _ _) _ _ _ _) _ _ _; (first | (refine q_loadC (v := ?_) (row := ?_) rfl rfl ?_ ?_ ?_ (hK _ ?_); rotate_left 2; (repeat first | exact .head _ | apply List.Mem.tail); (exact rfl); (focus (intro _; simp [hs0, hq]; done))) | (refine q_loadNC (row := ?_) rfl rfl ?_ ?_ ?_ (hK _ ?_); rotate_left 1; (repeat first | exact .head _ | apply List.Mem.tail); (focus (intro _; simp [hs0, hq]; done)); (focus (intro _; simp [hs0, hq]; done)))); clear hK K; simp only [Act.put, List.setIfInBounds_toArray, List.set_cons_succ, List.set_cons_zero, hs0, hq]) | (go_big_quiet_op; (try refine ⟨_, fun _ _ => rfl, ?_⟩); refine hK _ ?_; clear hK K)) | (refine treeC_call (v := ?_) ⟨_, H, by repeat first | exact .here | apply Suf.there⟩ rfl rfl (fun w3 H K hK => ?_) ?_; rotate_left 1; (focus (simp only [List.getElem_toArray, List.getElem_cons_succ, List.getElem_cons_zero]; first | (refine o_segLen (m := ?_) rfl H ?_ ?_; rotate_left 1; (repeat first | exact .head _ | apply List.Mem.tail); exact hK _ (Ext.refl _)) | (go_big_op; first | exact hK _ (Ext.refl _) | (go_at_call 63; (with_reducible refine (h5 _ _ (by exact H.giveRd m4 f0)).mono ?_); rintro e w3 ⟨rfl, hb⟩; dsimp only; first | exact hK _ hb | exact hK _ (Ext.refl _))))); simp only [List.getElem_toArray, List.getElem_cons_succ, List.getElem_cons_zero, Act.put, List.setIfInBounds_toArray, List.set_cons_succ, List.set_cons_zero, hs0, hq]) | (refine treeC_skip ⟨_, H, by repeat first | exact .here | apply Suf.there⟩ rfl rfl ?_; simp only [List.getElem_toArray, List.getElem_cons_succ, List.getElem_cons_zero, Act.put, List.setIfInBounds_toArray, List.set_cons_succ, List.set_cons_zero, hs0, hq])) | (guard_target =~ wpTreeC _ _ _ (Tr.both _ _) _ _ _; refine treeC_both ?_ ?_) | (guard_target =~ wpTreeC _ _ _ (Tr.e _ _) _ _ _; first | (refine treeC_one H rfl rfl (fun w3 H2 K hK => ?_); clear H; (try clear w2); (revert w3; intro w2 H); simp only [List.getElem_toArray, List.getElem_cons_succ, List.getElem_cons_zero]; first | ((first | (guard_target =~ Oper.wp _ (Oper.mk _ (.store _ _ _) _ _ _ _) _ _ _ _; refine o_store (l' := ?_) (row := ?_) rfl rfl H rfl ?_ ?_ ?_ ?_ (fun w3 H2 => hK _ _ ⟨_, H2, ?_⟩ ?_); rotate_left 2; (exact r0); (focus (intro _; (simp [Act.eval, Value.cells, List.getD, hs0, hq]; done))); (focus (simp [Act.eval, Value.cells, List.getD, hs0, hq]; done)); (exact rfl); (guard_target =~ Suf _ _; repeat first | exact .here | apply Suf.there); clear hK K; clear H; (try clear w2); revert w3; intro w2 H; (try simp [Act.eval, List.getD, hs0, hq] at H); (try simp [Value.cells, setL, hs0, hq] at H)) | ((guard_target =~ Oper.wp _ (Oper.mk _ (.alloc _) _ _ _ _) _ _ _ _; refine o_alloc (z := ?_) rfl ?_ H rfl (fun w3 b2 he H2 => hK _ _ ⟨_, H2, ?_⟩ ?_); rotate_left 1; (focus (intro _; simp; with_reducible exact rfl))); (guard_target =~ Suf _ _; repeat first | exact .here | apply Suf.there); clear hK K he; clear H; (try clear w2); revert w3; intro w2 H; (try simp [Act.eval, List.getD, hs0, hq] at H); (try simp [Value.cells, setL, hs0, hq] at H); (clear tk1; rename Nat => b3))); simp only [Act.put, List.setIfInBounds_toArray, List.set_cons_succ, List.set_cons_zero, hs0, hq]) | (go_big_op; (first | fail))) | (refine treeC_one_skip (fun w3 hx => ⟨_, H.ext hx, by repeat first | exact .here | apply Suf.there⟩) rfl rfl (fun w3 hx => ?_); replace H := H.ext hx; clear hx; (try clear w2); revert w3; intro w2 H; simp only [List.getElem_toArray, List.getElem_cons_succ, List.getElem_cons_zero, Act.put, List.setIfInBounds_toArray, List.set_cons_succ, List.set_cons_zero, hs0, hq])) | (guard_target =~ wpTreeC _ _ _ Tr.nil _ _ _; refine treeC_nil H (fun w3 H2 => ?_); clear H; (try clear w2); revert w3; intro w2 H)))
            go_roundg (gk - 1)
            case rel =>
              have e := show m - (gk - 1) = j + 1 by have := HJ.out; omega
              exact ⟨by omega, by rw [e]; simp, by rw [e, HO.out]; simp, by rw [e, HAS.out, HTE.out], (H.sub (by repeat first | exact List.Sublist.refl _ | apply List.Sublist.cons_cons | apply List.Sublist.cons))⟩
            case measure => omega
          · rw [decide_eq_false hd, Bool.not_false] at hq
            have hz : addZ vs es X.S edge = 1 := add_other (allE_take (j := j + 1) (by rw [HAS.out, HHE.out, hs0]; simp only [Option.some.injEq]; rw [decide_eq_false hd]; rfl))
            have HZ := Lib.hid hz
            clear hseg hd hz
            have tk0 : True := trivial
            have tk1 : True := trivial
            go_wp2_with (first
              | (guard_target =~ Code.wp _ (Code.region 8 _ true) _ _ _; refine region_treeC0 8 (G := True) (.q 0 (.q 1 (.q 2 (.q 3 (.q 4 (.q 5 (.q 6 (.q 7 (.q 8 (.q 9 (.e 10 (.e 11 (.q 12 .nil))))))))))))) (by kernel_rfl) (by intro c a d v w h; cases d <;> first | exact h | exact hQ h) (by kernel_rfl) H ⟨trivial⟩ (fun _ w3 H2 => ?_); (clear H; (try clear w2); revert w3; intro w2 H))
              | (guard_target =~ Code.wp _ (Code.region 9 _ true) _ _ _; refine region_treeC0 9 (G := True) (.q 0 (.q 1 (.q 2 (.q 3 (.q 4 (.q 5 (.q 6 (.q 7 (.q 8 .nil))))))))) (by kernel_rfl) (by intro c a d v w h; cases d <;> first | exact h | exact hQ h) (by kernel_rfl) H ⟨trivial⟩ (fun _ w3 H2 => ?_); (clear H; (try clear w2); revert w3; intro w2 H))
              | (guard_target =~ wpList _ _ _ (_ :: _) _ _; (first | (guard_target =~ wpList _ _ _ (Oper.mk _ (.load _ _) _ _ _ _ :: _) _ _; refine BigFrame.wpList_want rfl (fun K hK => ?_); (first | (refine o_loadC (v := ?_) (row := ?_) rfl rfl H ?_ ?_ ?_ (hK _ _ ?_); rotate_left 2; (repeat first | exact .head _ | apply List.Mem.tail); (exact rfl); (focus (intro _; simp [hs0, hq]; done))) | (refine o_loadN (cs := ?_) (r := ?_) rfl rfl H ?_ ?_ ?_ ?_ (hK _ _ ?_); rotate_left 2; (with_reducible assumption); (repeat first | exact .head _ | apply List.Mem.tail); (focus (intro _; simp [hs0, hq]; done)); (focus (intro _; simp [hs0, hq]; done)))); clear hK K) | (guard_target =~ wpList _ _ _ (Oper.mk _ (.store _ _ _) _ _ _ _ :: _) _ _; refine BigFrame.wpList_want rfl (fun K hK => ?_); refine o_store (l' := ?_) (row := ?_) rfl rfl H rfl ?_ ?_ ?_ ?_ (fun w3 H2 => hK _ _ ?_); rotate_left 2; (exact r0); (focus (intro _; (simp [Act.eval, Value.cells, List.getD, hs0, hq]; done))); (focus (simp [Act.eval, Value.cells, List.getD, hs0, hq]; done)); (exact rfl); clear hK K; clear H; (try clear w2); revert w3; intro w2 H; (try simp [Act.eval, List.getD, hs0, hq] at H); (try simp [Value.cells, setL, hs0, hq] at H)) | ((guard_target =~ wpList _ _ _ (Oper.mk _ (.alloc _) _ _ _ _ :: _) _ _; refine BigFrame.wpList_want rfl (fun K hK => ?_); refine o_alloc (z := ?_) rfl ?_ H rfl (fun w3 b2 he H2 => hK _ _ ?_); rotate_left 1; (focus (intro _; simp; with_reducible exact rfl))); clear hK K he; clear H; (try clear w2); revert w3; intro w2 H; (try simp [Act.eval, List.getD, hs0, hq] at H); (try simp [Value.cells, setL, hs0, hq] at H); (clear tk0; rename Nat => b2))); simp only [Act.put, List.setIfInBounds_toArray, List.set_cons_succ, List.set_cons_zero, hs0, hq])
              | (guard_target =~ wpTreeC _ _ _ _ _ _ _; first | (guard_target =~ wpTreeC _ _ _ (Tr.e _ Tr.nil) _ _ _; refine treeC_last (by decide +kernel) H rfl rfl (fun w3 H2 K hK => ?_); clear H; (try clear w2); (revert w3; intro w2 H); simp only [List.getElem_toArray, List.getElem_cons_succ, List.getElem_cons_zero]; (first | fail); simp only [Act.put, List.setIfInBounds_toArray, List.set_cons_succ, List.set_cons_zero, hs0, hq]) | (guard_target =~ wpTreeC _ _ _ (Tr.q _ _) _ _ _; first | (refine treeC_quiet ⟨_, H, by repeat first | exact .here | apply Suf.there⟩ rfl rfl rfl (fun K hK => ?_); simp only [List.getElem_toArray, List.getElem_cons_succ, List.getElem_cons_zero]; first | (guard_target =~ Oper.quiet _ (Oper.mk _ (.lookup _ _ _ false) _ _ _ _) _ _ _; refine q_segGet (m := ?_) rfl rfl rfl ?_ (hK _ ?_); rotate_left 1; (repeat first | exact .head _ | apply List.Mem.tail); clear hK K; simp only [Act.put, List.setIfInBounds_toArray, List.set_cons_succ, List.set_cons_zero, hs0, hq]) | (guard_target =~ Oper.quiet _ (Oper.mk _ (.lookup _ _ _ true) _ _ _ _) _ _ _; refine q_segOk (m := ?_) rfl rfl rfl ?_ (hK _ ?_); rotate_left 1; (repeat first | exact .head _ | apply List.Mem.tail); clear hK K; simp only [Act.put, List.setIfInBounds_toArray, List.set_cons_succ, List.set_cons_zero, hs0, hq]) | (guard_target =~ Oper.quiet _ (Oper.mk _ (.load _ _) _ _ _ _) _ _ _; (first | (refine q_loadC (v := ?_) (row := ?_) rfl rfl ?_ ?_ ?_ (hK _ ?_); rotate_left 2; (repeat first | exact .head _ | apply List.Mem.tail); (exact rfl); (focus (intro _; simp [hs0, hq]; done))) | (refine q_loadNC (row := ?_) rfl rfl ?_ ?_ ?_ (hK _ ?_); rotate_left 1; (repeat first | exact .head _ | apply List.Mem.tail); (focus (intro _; simp [hs0, hq]; done)); (focus (intro _; simp [hs0, hq]; done)))); clear hK K; simp only [Act.put, List.setIfInBounds_toArray, List.set_cons_succ, List.set_cons_zero, hs0, hq]) | (go_big_quiet_op; (try refine ⟨_, fun _ _ => rfl, ?_⟩); refine hK _ ?_; clear hK K)) | (refine treeC_call (v := ?_) ⟨_, H, by repeat first | exact .here | apply Suf.there⟩ rfl rfl (fun w3 H K hK => ?_) ?_; rotate_left 1; (focus (simp only [List.getElem_toArray, List.getElem_cons_succ, List.getElem_cons_zero]; first | (refine o_segLen (m := ?_) rfl H ?_ ?_; rotate_left 1; (repeat first | exact .head _ | apply List.Mem.tail); exact hK _ (Ext.refl _)) | (go_big_op; first | exact hK _ (Ext.refl _) | (go_at_call 63; (with_reducible refine (h5 _ _ (by exact H.giveRd m4 f0)).mono ?_); rintro e w3 ⟨rfl, hb⟩; dsimp only; first | exact hK _ hb | exact hK _ (Ext.refl _))))); simp only [List.getElem_toArray, List.getElem_cons_succ, List.getElem_cons_zero, Act.put, List.setIfInBounds_toArray, List.set_cons_succ, List.set_cons_zero, hs0, hq]) | (refine treeC_skip ⟨_, H, by repeat first | exact .here | apply Suf.there⟩ rfl rfl ?_; simp only [List.getElem_toArray, List.getElem_cons_succ, List.getElem_cons_zero, Act.put, List.setIfInBounds_toArray, List.set_cons_succ, List.set_cons_zero, hs0, hq])) | (guard_target =~ wpTreeC _ _ _ (Tr.both _ _) _ _ _; refine treeC_both ?_ ?_) | (guard_target =~ wpTreeC _ _ _ (Tr.e _ _) _ _ _; first | (refine treeC_one H rfl rfl (fun w3 H2 K hK => ?_); clear H; (try clear w2); (revert w3; intro w2 H); simp only [List.getElem_toArray, List.getElem_cons_succ, List.getElem_cons_zero]; first | ((first | (guard_target =~ Oper.wp _ (Oper.mk _ (.store _ _ _) _ _ _ _) _ _ _ _; refine o_store (l' := ?_) (row := ?_) rfl rfl H rfl ?_ ?_ ?_ ?_ (fun w3 H2 => hK _ _ ⟨_, H2, ?_⟩ ?_); rotate_left 2; (exact r0); (focus (intro _; (simp [Act.eval, Value.cells, List.getD, hs0, hq]; done))); (focus (simp [Act.eval, Value.cells, List.getD, hs0, hq]; done)); (exact rfl); (guard_target =~ Suf _ _; repeat first | exact .here | apply Suf.there); clear hK K; clear H; (try clear w2); revert w3; intro w2 H; (try simp [Act.eval, List.getD, hs0, hq] at H); (try simp [Value.cells, setL, hs0, hq] at H)) | ((guard_target =~ Oper.wp _ (Oper.mk _ (.alloc _) _ _ _ _) _ _ _ _; refine o_alloc (z := ?_) rfl ?_ H rfl (fun w3 b2 he H2 => hK _ _ ⟨_, H2, ?_⟩ ?_); rotate_left 1; (focus (intro _; simp; with_reducible exact rfl))); (guard_target =~ Suf _ _; repeat first | exact .here | apply Suf.there); clear hK K he; clear H; (try clear w2); revert w3; intro w2 H; (try simp [Act.eval, List.getD, hs0, hq] at H); (try simp [Value.cells, setL, hs0, hq] at H); (clear tk1; rename Nat => b3))); simp only [Act.put, List.setIfInBounds_toArray, List.set_cons_succ, List.set_cons_zero, hs0, hq]) | (go_big_op; (first | fail))) | (refine treeC_one_skip (fun w3 hx => ⟨_, H.ext hx, by repeat first | exact .here | apply Suf.there⟩) rfl rfl (fun w3 hx => ?_); replace H := H.ext hx; clear hx; (try clear w2); revert w3; intro w2 H; simp only [List.getElem_toArray, List.getElem_cons_succ, List.getElem_cons_zero, Act.put, List.setIfInBounds_toArray, List.set_cons_succ, List.set_cons_zero, hs0, hq])) | (guard_target =~ wpTreeC _ _ _ Tr.nil _ _ _; refine treeC_nil H (fun w3 H2 => ?_); clear H; (try clear w2); revert w3; intro w2 H)))
            go_ret
            exact ⟨by rw [HZ.out]; rfl, fun _ => (H.sub (by repeat first | exact List.Sublist.refl _ | apply List.Sublist.cons_cons | apply List.Sublist.cons)), fun h => absurd (HZ.out.symm.trans h) (by decide)⟩
      · have tk0 : True := trivial
        have tk1 : True := trivial
        go_wp2_with (guard_target =~ wpList _ _ _ (_ :: _) _ _; (first | (guard_target =~ wpList _ _ _ (Oper.mk _ (.load _ _) _ _ _ _ :: _) _ _; refine BigFrame.wpList_want rfl (fun K hK => ?_); (first | (refine o_loadC (v := ?_) (row := ?_) rfl rfl H ?_ ?_ ?_ (hK _ _ ?_); rotate_left 2; (repeat first | exact .head _ | apply List.Mem.tail); (exact rfl); (focus (intro _; simp; done))) | (refine o_loadN (cs := ?_) (r := ?_) rfl rfl H ?_ ?_ ?_ ?_ (hK _ _ ?_); rotate_left 2; (with_reducible assumption); (repeat first | exact .head _ | apply List.Mem.tail); (focus (intro _; simp; done)); (focus (intro _; simp; done)))); clear hK K) | (guard_target =~ wpList _ _ _ (Oper.mk _ (.store _ _ _) _ _ _ _ :: _) _ _; refine BigFrame.wpList_want rfl (fun K hK => ?_); refine o_store (l' := ?_) (row := ?_) rfl rfl H rfl ?_ ?_ ?_ ?_ (fun w3 H2 => hK _ _ ?_); rotate_left 2; (exact r0); (focus (intro _; simp [Act.eval, Value.cells]; done)); (focus (simp [Act.eval, Value.cells]; done)); (exact rfl); clear hK K; clear H; (try clear w2); revert w3; intro w2 H; simp [Act.eval, Value.cells, setL, List.getD] at H) | ((guard_target =~ wpList _ _ _ (Oper.mk _ (.alloc _) _ _ _ _ :: _) _ _; refine BigFrame.wpList_want rfl (fun K hK => ?_); refine o_alloc (z := ?_) rfl ?_ H rfl (fun w3 b2 he H2 => hK _ _ ?_); rotate_left 1; (focus (intro _; simp; with_reducible exact rfl))); clear hK K he; clear H; (try clear w2); revert w3; intro w2 H; simp [Act.eval, Value.cells, setL, List.getD] at H; (clear tk0; rename Nat => b2))); simp only [Act.put, List.setIfInBounds_toArray, List.set_cons_succ, List.set_cons_zero])
        go_roundg (gk - 1)
        case rel =>
          have e := show m - (gk - 1) = j + 1 by have := HJ.out; omega
          exact ⟨by omega, by rw [e]; simp, by rw [e, HO.out]; simp, by rw [e, HAS.out, HHE.out]; rfl, (H.sub (by repeat first | exact List.Sublist.refl _ | apply List.Sublist.cons_cons | apply List.Sublist.cons))⟩
        case measure => omega
    · obtain rfl : gk = 0 := by omega
      have htk : es.take (m - 0) = es := by rw [Nat.sub_zero]; exact List.take_of_length_le (by have := HM.out; omega)
      rw [htk] at ha ⊢
      have hnm : othersN es edge ≤ 40 := by
        have := others_le es edge es.length
        rw [List.take_length] at this
        have := HM.out; omega
      have HA := Lib.hid ha
      obtain ⟨q, hq⟩ : ∃ q, othersN es edge = q := ⟨_, rfl⟩
      rw [hq] at hnm ⊢
      have HQ := Lib.hid hq
      clear htk ha hq
      cases hs1 : getA X.S edge with
      | none =>
        by_cases hcnt : q = X.S.length
        · have hcn : ((q : Int) != (X.S.length : Int)) = false := by rw [hcnt]; simp
          have hz := add_rest (S := X.S) HR.out HA.out (by rw [HQ.out, hs1]; simpa using hcnt)
          rw [hs1] at hz
          cases ho : (es.find? fun e => e.id == edge) with
          | none =>
            rw [ho] at h2 hz
            simp only [egV, Option.isSome_none, if_true] at h2 hz
            have HZ := Lib.hid hz
            clear hz ho hcnt
            have tk0 : True := trivial
            have tk1 : True := trivial
            go_wp2_with (first
              | (go_at_call 59; (with_reducible refine (h2 _ _ (by exact H.giveRd m2 f9)).mono ?_); rintro e w3 ⟨rfl, hb⟩; replace H := H.ext hb; clear hb; dsimp only)
              | (guard_target =~ wpList _ _ _ (_ :: _) _ _; (first | (guard_target =~ wpList _ _ _ (Oper.mk _ (.load _ _) _ _ _ _ :: _) _ _; refine BigFrame.wpList_want rfl (fun K hK => ?_); (first | (refine o_loadC (v := ?_) (row := ?_) rfl rfl H ?_ ?_ ?_ (hK _ _ ?_); rotate_left 2; (repeat first | exact .head _ | apply List.Mem.tail); (exact rfl); (focus (intro _; simp [hs1, hcn]; done))) | (refine o_loadNC (row := ?_) rfl rfl H ?_ ?_ ?_ (hK _ _ ?_); rotate_left 1; (repeat first | exact .head _ | apply List.Mem.tail); (focus (intro _; simp [hs1, hcn]; done)); (focus (intro _; simp [hs1, hcn]; done)))); clear hK K) | (guard_target =~ wpList _ _ _ (Oper.mk _ (.store _ _ _) _ _ _ _ :: _) _ _; refine BigFrame.wpList_want rfl (fun K hK => ?_); refine o_store (l' := ?_) (row := ?_) rfl rfl H rfl ?_ ?_ ?_ ?_ (fun w3 H2 => hK _ _ ?_); rotate_left 2; (exact r0); (focus (intro _; (simp [Act.eval, Value.cells, List.getD, hs1, hcn]; done))); (focus (simp [Act.eval, Value.cells, List.getD, hs1, hcn]; done)); (exact rfl); clear hK K; clear H; (try clear w2); revert w3; intro w2 H; (try simp [Act.eval, List.getD, hs1, hcn] at H); (try simp [Value.cells, setL, hs1, hcn] at H)) | ((guard_target =~ wpList _ _ _ (Oper.mk _ (.alloc _) _ _ _ _ :: _) _ _; refine BigFrame.wpList_want rfl (fun K hK => ?_); refine o_alloc (z := ?_) rfl ?_ H rfl (fun w3 b2 he H2 => hK _ _ ?_); rotate_left 1; (focus (intro _; simp; with_reducible exact rfl))); clear hK K he; clear H; (try clear w2); revert w3; intro w2 H; (try simp [Act.eval, List.getD, hs1, hcn] at H); (try simp [Value.cells, setL, hs1, hcn] at H); (first | (clear tk0; rename Nat => b2) | (clear tk1; rename Nat => b3))) | (guard_target =~ wpList _ _ _ (Oper.mk _ (.lookup _ _ _ true) _ _ _ _ :: _) _ _; refine BigFrame.wpList_want rfl (fun K hK => ?_); refine o_segOk (m := ?_) rfl rfl rfl H ?_ (hK _ _ ?_); rotate_left 1; (repeat first | exact .head _ | apply List.Mem.tail); clear hK K) | (guard_target =~ wpList _ _ _ (Oper.mk _ (.call { callee := .builtin .len, args := _, argTypes := _ }) _ _ _ _ :: _) _ _; refine BigFrame.wpList_want rfl (fun K hK => ?_); refine o_segLen (m := ?_) rfl H ?_ (hK _ _ ?_); rotate_left 1; (repeat first | exact .head _ | apply List.Mem.tail); clear hK K)); simp only [Act.put, List.setIfInBounds_toArray, List.set_cons_succ, List.set_cons_zero, hs1, hcn]))
            go_ret
            exact ⟨by rw [HZ.out]; rfl, fun _ => (H.sub (by repeat first | exact List.Sublist.refl _ | apply List.Sublist.cons_cons | apply List.Sublist.cons)), fun h => absurd (HZ.out.symm.trans h) (by decide)⟩
          | some e =>
            obtain ⟨x, y, ho2, hmem⟩ := edge_find (es := es) (id := edge) (by rw [ho]; rfl)
            obtain rfl : e = ⟨edge, x, y⟩ := by rw [ho] at ho2; injection ho2
            have h5 := fun F w a => h3 F w a x y edge (HE.out edge x y hmem).1 (HE.out edge x y hmem).2
            rw [ho] at h2 hz
            simp only [egV, Option.isSome_some, Option.isSome_none, Bool.true_eq_false, Bool.false_eq_true, if_false] at h2 hz
            have hl40 := HLL.out hz
            have hkey : edge ∉ L.map (·.1) := by rw [← HL.out.S_]; exact getA_none.1 hs1
            have hsg : segI vs es edge = segZ vs x y := by unfold segI; rw [ho]
            have hput := fun {l : List Res} w4 H => put2_any (B := B) (w0 := w0) (w := w4) (l := l) (bx := bx) (ks := ks) (ke := ke) (cn := cn) (cp := cp) (dn := dn) (dp := dp) edge (segZ vs x y) HL.out hl40 hkey H
            have HZ := Lib.hid hz
            have HSG := Lib.hid hsg
            clear hz ho ho2 hcnt hmem hl40 hkey hsg
            have tk0 : True := trivial
            have tk1 : True := trivial
            go_wp2_with (first
              | (go_at_call 59; (with_reducible refine (h2 _ _ (by exact H.giveRd m2 f9)).mono ?_); rintro e w3 ⟨rfl, hb⟩; replace H := H.ext hb; clear hb; dsimp only)
              | (go_at_call 63; (with_reducible refine (h5 _ _ (by exact H.giveRd m4 f0)).mono ?_); rintro e w3 ⟨rfl, hb⟩; replace H := H.ext hb; clear hb; dsimp only)
              | (go_at_call 62; (replace H:Own _ _ _ (mEnd _ _ :: _) := H.front9); (replace H:Own _ _ _ (mSeg _ _ :: _) := H.front9); (replace H:Own _ _ _ (Res.grow 121 _ _ _ _ :: _) := H.front9); (replace H:Own _ _ _ (Res.grow 127 _ _ _ _ :: _) := H.front9); (replace H:Own _ _ _ (Res.cells bx _ :: _) := H.front9); (with_reducible refine (hput _ H).mono ?_); rintro e w3 ⟨rfl, Y, dn2, dp2, cn2, cp2, hY, H2⟩; replace H := H2; clear H2; have HY := Lib.hid hY; clear hY; dsimp only)
              | (guard_target =~ wpList _ _ _ (_ :: _) _ _; (first | (guard_target =~ wpList _ _ _ (Oper.mk _ (.load _ _) _ _ _ _ :: _) _ _; refine BigFrame.wpList_want rfl (fun K hK => ?_); (first | (refine o_loadC (v := ?_) (row := ?_) rfl rfl H ?_ ?_ ?_ (hK _ _ ?_); rotate_left 2; (repeat first | exact .head _ | apply List.Mem.tail); (exact rfl); (focus (intro _; simp [hs1, hcn]; done))) | (refine o_loadNC (row := ?_) rfl rfl H ?_ ?_ ?_ (hK _ _ ?_); rotate_left 1; (repeat first | exact .head _ | apply List.Mem.tail); (focus (intro _; simp [hs1, hcn]; done)); (focus (intro _; simp [hs1, hcn]; done)))); clear hK K) | (guard_target =~ wpList _ _ _ (Oper.mk _ (.store _ _ _) _ _ _ _ :: _) _ _; refine BigFrame.wpList_want rfl (fun K hK => ?_); refine o_store (l' := ?_) (row := ?_) rfl rfl H rfl ?_ ?_ ?_ ?_ (fun w3 H2 => hK _ _ ?_); rotate_left 2; (exact r0); (focus (intro _; (simp [Act.eval, Value.cells, List.getD, hs1, hcn]; done))); (focus (simp [Act.eval, Value.cells, List.getD, hs1, hcn]; done)); (exact rfl); clear hK K; clear H; (try clear w2); revert w3; intro w2 H; (try simp [Act.eval, List.getD, hs1, hcn] at H); (try simp [Value.cells, setL, hs1, hcn] at H)) | ((guard_target =~ wpList _ _ _ (Oper.mk _ (.alloc _) _ _ _ _ :: _) _ _; refine BigFrame.wpList_want rfl (fun K hK => ?_); refine o_alloc (z := ?_) rfl ?_ H rfl (fun w3 b2 he H2 => hK _ _ ?_); rotate_left 1; (focus (intro _; simp; with_reducible exact rfl))); clear hK K he; clear H; (try clear w2); revert w3; intro w2 H; (try simp [Act.eval, List.getD, hs1, hcn] at H); (try simp [Value.cells, setL, hs1, hcn] at H); (first | (clear tk0; rename Nat => b2) | (clear tk1; rename Nat => b3))) | (guard_target =~ wpList _ _ _ (Oper.mk _ (.lookup _ _ _ true) _ _ _ _ :: _) _ _; refine BigFrame.wpList_want rfl (fun K hK => ?_); refine o_segOk (m := ?_) rfl rfl rfl H ?_ (hK _ _ ?_); rotate_left 1; (repeat first | exact .head _ | apply List.Mem.tail); clear hK K) | (guard_target =~ wpList _ _ _ (Oper.mk _ (.call { callee := .builtin .len, args := _, argTypes := _ }) _ _ _ _ :: _) _ _; refine BigFrame.wpList_want rfl (fun K hK => ?_); refine o_segLen (m := ?_) rfl H ?_ (hK _ _ ?_); rotate_left 1; (repeat first | exact .head _ | apply List.Mem.tail); clear hK K)); simp only [Act.put, List.setIfInBounds_toArray, List.set_cons_succ, List.set_cons_zero, hs1, hcn]))
            go_ret
            exact ⟨by rw [HZ.out]; rfl, fun h => absurd HZ.out h, fun _ => ⟨Y, dn2, dp2, cn2, cp2, by rw [HSG.out]; exact HY.out, (H.sub (by repeat first | exact List.Sublist.refl _ | apply List.Sublist.cons_cons | apply List.Sublist.cons))⟩⟩
        · have hcn : ((q : Int) != (X.S.length : Int)) = true := by simp; omega
          have hz := add_count (vs := vs) (es := es) (S := X.S) (edge := edge) (by rw [HQ.out, hs1]; simpa using hcnt)
          have HZ := Lib.hid hz
          clear hz hcnt
          cases ho : (es.find? fun e => e.id == edge) with
          | none =>
            rw [ho] at h2
            simp only [egV, Option.isSome_none] at h2
            clear ho
            have tk0 : True := trivial
            have tk1 : True := trivial
            go_wp2_with (first
              | (go_at_call 59; (with_reducible refine (h2 _ _ (by exact H.giveRd m2 f9)).mono ?_); rintro e w3 ⟨rfl, hb⟩; replace H := H.ext hb; clear hb; dsimp only)
              | (guard_target =~ wpList _ _ _ (_ :: _) _ _; (first | (guard_target =~ wpList _ _ _ (Oper.mk _ (.load _ _) _ _ _ _ :: _) _ _; refine BigFrame.wpList_want rfl (fun K hK => ?_); (first | (refine o_loadC (v := ?_) (row := ?_) rfl rfl H ?_ ?_ ?_ (hK _ _ ?_); rotate_left 2; (repeat first | exact .head _ | apply List.Mem.tail); (exact rfl); (focus (intro _; simp [hs1, hcn]; done))) | (refine o_loadNC (row := ?_) rfl rfl H ?_ ?_ ?_ (hK _ _ ?_); rotate_left 1; (repeat first | exact .head _ | apply List.Mem.tail); (focus (intro _; simp [hs1, hcn]; done)); (focus (intro _; simp [hs1, hcn]; done)))); clear hK K) | (guard_target =~ wpList _ _ _ (Oper.mk _ (.store _ _ _) _ _ _ _ :: _) _ _; refine BigFrame.wpList_want rfl (fun K hK => ?_); refine o_store (l' := ?_) (row := ?_) rfl rfl H rfl ?_ ?_ ?_ ?_ (fun w3 H2 => hK _ _ ?_); rotate_left 2; (exact r0); (focus (intro _; (simp [Act.eval, Value.cells, List.getD, hs1, hcn]; done))); (focus (simp [Act.eval, Value.cells, List.getD, hs1, hcn]; done)); (exact rfl); clear hK K; clear H; (try clear w2); revert w3; intro w2 H; (try simp [Act.eval, List.getD, hs1, hcn] at H); (try simp [Value.cells, setL, hs1, hcn] at H)) | ((guard_target =~ wpList _ _ _ (Oper.mk _ (.alloc _) _ _ _ _ :: _) _ _; refine BigFrame.wpList_want rfl (fun K hK => ?_); refine o_alloc (z := ?_) rfl ?_ H rfl (fun w3 b2 he H2 => hK _ _ ?_); rotate_left 1; (focus (intro _; simp; with_reducible exact rfl))); clear hK K he; clear H; (try clear w2); revert w3; intro w2 H; (try simp [Act.eval, List.getD, hs1, hcn] at H); (try simp [Value.cells, setL, hs1, hcn] at H); (first | (clear tk0; rename Nat => b2) | (clear tk1; rename Nat => b3))) | (guard_target =~ wpList _ _ _ (Oper.mk _ (.lookup _ _ _ true) _ _ _ _ :: _) _ _; refine BigFrame.wpList_want rfl (fun K hK => ?_); refine o_segOk (m := ?_) rfl rfl rfl H ?_ (hK _ _ ?_); rotate_left 1; (repeat first | exact .head _ | apply List.Mem.tail); clear hK K) | (guard_target =~ wpList _ _ _ (Oper.mk _ (.call { callee := .builtin .len, args := _, argTypes := _ }) _ _ _ _ :: _) _ _; refine BigFrame.wpList_want rfl (fun K hK => ?_); refine o_segLen (m := ?_) rfl H ?_ (hK _ _ ?_); rotate_left 1; (repeat first | exact .head _ | apply List.Mem.tail); clear hK K)); simp only [Act.put, List.setIfInBounds_toArray, List.set_cons_succ, List.set_cons_zero, hs1, hcn]))
            go_ret
            exact ⟨by rw [HZ.out]; rfl, fun _ => (H.sub (by repeat first | exact List.Sublist.refl _ | apply List.Sublist.cons_cons | apply List.Sublist.cons)), fun h => absurd (HZ.out.symm.trans h) (by decide)⟩
          | some e =>
            rw [ho] at h2
            simp only [egV, Option.isSome_some] at h2
            clear ho
            have tk0 : True := trivial
            have tk1 : True := trivial
            go_wp2_with (first
              | (go_at_call 59; (with_reducible refine (h2 _ _ (by exact H.giveRd m2 f9)).mono ?_); rintro e w3 ⟨rfl, hb⟩; replace H := H.ext hb; clear hb; dsimp only)
              | (guard_target =~ wpList _ _ _ (_ :: _) _ _; (first | (guard_target =~ wpList _ _ _ (Oper.mk _ (.load _ _) _ _ _ _ :: _) _ _; refine BigFrame.wpList_want rfl (fun K hK => ?_); (first | (refine o_loadC (v := ?_) (row := ?_) rfl rfl H ?_ ?_ ?_ (hK _ _ ?_); rotate_left 2; (repeat first | exact .head _ | apply List.Mem.tail); (exact rfl); (focus (intro _; simp [hs1, hcn]; done))) | (refine o_loadNC (row := ?_) rfl rfl H ?_ ?_ ?_ (hK _ _ ?_); rotate_left 1; (repeat first | exact .head _ | apply List.Mem.tail); (focus (intro _; simp [hs1, hcn]; done)); (focus (intro _; simp [hs1, hcn]; done)))); clear hK K) | (guard_target =~ wpList _ _ _ (Oper.mk _ (.store _ _ _) _ _ _ _ :: _) _ _; refine BigFrame.wpList_want rfl (fun K hK => ?_); refine o_store (l' := ?_) (row := ?_) rfl rfl H rfl ?_ ?_ ?_ ?_ (fun w3 H2 => hK _ _ ?_); rotate_left 2; (exact r0); (focus (intro _; (simp [Act.eval, Value.cells, List.getD, hs1, hcn]; done))); (focus (simp [Act.eval, Value.cells, List.getD, hs1, hcn]; done)); (exact rfl); clear hK K; clear H; (try clear w2); revert w3; intro w2 H; (try simp [Act.eval, List.getD, hs1, hcn] at H); (try simp [Value.cells, setL, hs1, hcn] at H)) | ((guard_target =~ wpList _ _ _ (Oper.mk _ (.alloc _) _ _ _ _ :: _) _ _; refine BigFrame.wpList_want rfl (fun K hK => ?_); refine o_alloc (z := ?_) rfl ?_ H rfl (fun w3 b2 he H2 => hK _ _ ?_); rotate_left 1; (focus (intro _; simp; with_reducible exact rfl))); clear hK K he; clear H; (try clear w2); revert w3; intro w2 H; (try simp [Act.eval, List.getD, hs1, hcn] at H); (try simp [Value.cells, setL, hs1, hcn] at H); (first | (clear tk0; rename Nat => b2) | (clear tk1; rename Nat => b3))) | (guard_target =~ wpList _ _ _ (Oper.mk _ (.lookup _ _ _ true) _ _ _ _ :: _) _ _; refine BigFrame.wpList_want rfl (fun K hK => ?_); refine o_segOk (m := ?_) rfl rfl rfl H ?_ (hK _ _ ?_); rotate_left 1; (repeat first | exact .head _ | apply List.Mem.tail); clear hK K) | (guard_target =~ wpList _ _ _ (Oper.mk _ (.call { callee := .builtin .len, args := _, argTypes := _ }) _ _ _ _ :: _) _ _; refine BigFrame.wpList_want rfl (fun K hK => ?_); refine o_segLen (m := ?_) rfl H ?_ (hK _ _ ?_); rotate_left 1; (repeat first | exact .head _ | apply List.Mem.tail); clear hK K)); simp only [Act.put, List.setIfInBounds_toArray, List.set_cons_succ, List.set_cons_zero, hs1, hcn]))
            go_ret
            exact ⟨by rw [HZ.out]; rfl, fun _ => (H.sub (by repeat first | exact List.Sublist.refl _ | apply List.Sublist.cons_cons | apply List.Sublist.cons)), fun h => absurd (HZ.out.symm.trans h) (by decide)⟩
      | some s0 =>
        obtain ⟨⟨ax, ay⟩, ⟨sx, sy⟩⟩ := s0
        have hw1 : IntKind.i64.wrap ((q : Int) + 1) = (q : Int) + 1 := IntWalk.i64_in _ (by omega)
        by_cases hcnt : q + 1 = X.S.length
        · have hcn : ((q : Int) + 1 != (X.S.length : Int)) = false := by rw [← hcnt]; simp
          have hz := add_rest (S := X.S) HR.out HA.out (by rw [HQ.out, hs1]; simpa using hcnt)
          rw [hs1] at hz
          cases ho : (es.find? fun e => e.id == edge) with
          | none =>
            rw [ho] at h2 hz
            simp only [egV, Option.isSome_none, if_true] at h2 hz
            have HZ := Lib.hid hz
            clear hz ho hcnt
            have tk0 : True := trivial
            have tk1 : True := trivial
            go_wp2_with (first
              | (go_at_call 59; (with_reducible refine (h2 _ _ (by exact H.giveRd m2 f9)).mono ?_); rintro e w3 ⟨rfl, hb⟩; replace H := H.ext hb; clear hb; dsimp only)
              | (guard_target =~ wpList _ _ _ (_ :: _) _ _; (first | (guard_target =~ wpList _ _ _ (Oper.mk _ (.load _ _) _ _ _ _ :: _) _ _; refine BigFrame.wpList_want rfl (fun K hK => ?_); (first | (refine o_loadC (v := ?_) (row := ?_) rfl rfl H ?_ ?_ ?_ (hK _ _ ?_); rotate_left 2; (repeat first | exact .head _ | apply List.Mem.tail); (exact rfl); (focus (intro _; simp [hs1, hcn]; done))) | (refine o_loadNC (row := ?_) rfl rfl H ?_ ?_ ?_ (hK _ _ ?_); rotate_left 1; (repeat first | exact .head _ | apply List.Mem.tail); (focus (intro _; simp [hs1, hcn]; done)); (focus (intro _; simp [hs1, hcn]; done)))); clear hK K) | (guard_target =~ wpList _ _ _ (Oper.mk _ (.store _ _ _) _ _ _ _ :: _) _ _; refine BigFrame.wpList_want rfl (fun K hK => ?_); refine o_store (l' := ?_) (row := ?_) rfl rfl H rfl ?_ ?_ ?_ ?_ (fun w3 H2 => hK _ _ ?_); rotate_left 2; (exact r0); (focus (intro _; (simp [Act.eval, Value.cells, List.getD, hs1, hcn]; done))); (focus (simp [Act.eval, Value.cells, List.getD, hs1, hcn]; done)); (exact rfl); clear hK K; clear H; (try clear w2); revert w3; intro w2 H; (try simp [Act.eval, List.getD, hs1, hcn] at H); (try simp [Value.cells, setL, hs1, hcn] at H)) | ((guard_target =~ wpList _ _ _ (Oper.mk _ (.alloc _) _ _ _ _ :: _) _ _; refine BigFrame.wpList_want rfl (fun K hK => ?_); refine o_alloc (z := ?_) rfl ?_ H rfl (fun w3 b2 he H2 => hK _ _ ?_); rotate_left 1; (focus (intro _; simp; with_reducible exact rfl))); clear hK K he; clear H; (try clear w2); revert w3; intro w2 H; (try simp [Act.eval, List.getD, hs1, hcn] at H); (try simp [Value.cells, setL, hs1, hcn] at H); (first | (clear tk0; rename Nat => b2) | (clear tk1; rename Nat => b3))) | (guard_target =~ wpList _ _ _ (Oper.mk _ (.lookup _ _ _ true) _ _ _ _ :: _) _ _; refine BigFrame.wpList_want rfl (fun K hK => ?_); refine o_segOk (m := ?_) rfl rfl rfl H ?_ (hK _ _ ?_); rotate_left 1; (repeat first | exact .head _ | apply List.Mem.tail); clear hK K) | (guard_target =~ wpList _ _ _ (Oper.mk _ (.call { callee := .builtin .len, args := _, argTypes := _ }) _ _ _ _ :: _) _ _; refine BigFrame.wpList_want rfl (fun K hK => ?_); refine o_segLen (m := ?_) rfl H ?_ (hK _ _ ?_); rotate_left 1; (repeat first | exact .head _ | apply List.Mem.tail); clear hK K)); simp only [Act.put, List.setIfInBounds_toArray, List.set_cons_succ, List.set_cons_zero, hs1, hcn]))
            go_ret
            exact ⟨by rw [HZ.out]; rfl, fun _ => (H.sub (by repeat first | exact List.Sublist.refl _ | apply List.Sublist.cons_cons | apply List.Sublist.cons)), fun h => absurd (HZ.out.symm.trans h) (by decide)⟩
          | some e =>
            rw [ho] at h2 hz
            simp only [egV, Option.isSome_some, Bool.true_eq_false, if_false, if_true] at h2 hz
            have HZ := Lib.hid hz
            clear hz ho hcnt
            have tk0 : True := trivial
            have tk1 : True := trivial
            go_wp2_with (first
              | (go_at_call 59; (with_reducible refine (h2 _ _ (by exact H.giveRd m2 f9)).mono ?_); rintro e w3 ⟨rfl, hb⟩; replace H := H.ext hb; clear hb; dsimp only)
              | (guard_target =~ wpList _ _ _ (_ :: _) _ _; (first | (guard_target =~ wpList _ _ _ (Oper.mk _ (.load _ _) _ _ _ _ :: _) _ _; refine BigFrame.wpList_want rfl (fun K hK => ?_); (first | (refine o_loadC (v := ?_) (row := ?_) rfl rfl H ?_ ?_ ?_ (hK _ _ ?_); rotate_left 2; (repeat first | exact .head _ | apply List.Mem.tail); (exact rfl); (focus (intro _; simp [hs1, hcn]; done))) | (refine o_loadNC (row := ?_) rfl rfl H ?_ ?_ ?_ (hK _ _ ?_); rotate_left 1; (repeat first | exact .head _ | apply List.Mem.tail); (focus (intro _; simp [hs1, hcn]; done)); (focus (intro _; simp [hs1, hcn]; done)))); clear hK K) | (guard_target =~ wpList _ _ _ (Oper.mk _ (.store _ _ _) _ _ _ _ :: _) _ _; refine BigFrame.wpList_want rfl (fun K hK => ?_); refine o_store (l' := ?_) (row := ?_) rfl rfl H rfl ?_ ?_ ?_ ?_ (fun w3 H2 => hK _ _ ?_); rotate_left 2; (exact r0); (focus (intro _; (simp [Act.eval, Value.cells, List.getD, hs1, hcn]; done))); (focus (simp [Act.eval, Value.cells, List.getD, hs1, hcn]; done)); (exact rfl); clear hK K; clear H; (try clear w2); revert w3; intro w2 H; (try simp [Act.eval, List.getD, hs1, hcn] at H); (try simp [Value.cells, setL, hs1, hcn] at H)) | ((guard_target =~ wpList _ _ _ (Oper.mk _ (.alloc _) _ _ _ _ :: _) _ _; refine BigFrame.wpList_want rfl (fun K hK => ?_); refine o_alloc (z := ?_) rfl ?_ H rfl (fun w3 b2 he H2 => hK _ _ ?_); rotate_left 1; (focus (intro _; simp; with_reducible exact rfl))); clear hK K he; clear H; (try clear w2); revert w3; intro w2 H; (try simp [Act.eval, List.getD, hs1, hcn] at H); (try simp [Value.cells, setL, hs1, hcn] at H); (first | (clear tk0; rename Nat => b2) | (clear tk1; rename Nat => b3))) | (guard_target =~ wpList _ _ _ (Oper.mk _ (.lookup _ _ _ true) _ _ _ _ :: _) _ _; refine BigFrame.wpList_want rfl (fun K hK => ?_); refine o_segOk (m := ?_) rfl rfl rfl H ?_ (hK _ _ ?_); rotate_left 1; (repeat first | exact .head _ | apply List.Mem.tail); clear hK K) | (guard_target =~ wpList _ _ _ (Oper.mk _ (.call { callee := .builtin .len, args := _, argTypes := _ }) _ _ _ _ :: _) _ _; refine BigFrame.wpList_want rfl (fun K hK => ?_); refine o_segLen (m := ?_) rfl H ?_ (hK _ _ ?_); rotate_left 1; (repeat first | exact .head _ | apply List.Mem.tail); clear hK K)); simp only [Act.put, List.setIfInBounds_toArray, List.set_cons_succ, List.set_cons_zero, hs1, hcn]))
            go_ret
            exact ⟨by rw [HZ.out]; rfl, fun _ => (H.sub (by repeat first | exact List.Sublist.refl _ | apply List.Sublist.cons_cons | apply List.Sublist.cons)), fun h => absurd (HZ.out.symm.trans h) (by decide)⟩
        · have hcn : ((q : Int) + 1 != (X.S.length : Int)) = true := by simp; omega
          have hz := add_count (vs := vs) (es := es) (S := X.S) (edge := edge) (by rw [HQ.out, hs1]; simpa using hcnt)
          have HZ := Lib.hid hz
          clear hz hcnt
          cases ho : (es.find? fun e => e.id == edge) with
          | none =>
            rw [ho] at h2
            simp only [egV, Option.isSome_none] at h2
            clear ho
            have tk0 : True := trivial
            have tk1 : True := trivial
            go_wp2_with (first
              | (go_at_call 59; (with_reducible refine (h2 _ _ (by exact H.giveRd m2 f9)).mono ?_); rintro e w3 ⟨rfl, hb⟩; replace H := H.ext hb; clear hb; dsimp only)
              | (guard_target =~ wpList _ _ _ (_ :: _) _ _; (first | (guard_target =~ wpList _ _ _ (Oper.mk _ (.load _ _) _ _ _ _ :: _) _ _; refine BigFrame.wpList_want rfl (fun K hK => ?_); (first | (refine o_loadC (v := ?_) (row := ?_) rfl rfl H ?_ ?_ ?_ (hK _ _ ?_); rotate_left 2; (repeat first | exact .head _ | apply List.Mem.tail); (exact rfl); (focus (intro _; simp [hs1, hcn]; done))) | (refine o_loadNC (row := ?_) rfl rfl H ?_ ?_ ?_ (hK _ _ ?_); rotate_left 1; (repeat first | exact .head _ | apply List.Mem.tail); (focus (intro _; simp [hs1, hcn]; done)); (focus (intro _; simp [hs1, hcn]; done)))); clear hK K) | (guard_target =~ wpList _ _ _ (Oper.mk _ (.store _ _ _) _ _ _ _ :: _) _ _; refine BigFrame.wpList_want rfl (fun K hK => ?_); refine o_store (l' := ?_) (row := ?_) rfl rfl H rfl ?_ ?_ ?_ ?_ (fun w3 H2 => hK _ _ ?_); rotate_left 2; (exact r0); (focus (intro _; (simp [Act.eval, Value.cells, List.getD, hs1, hcn]; done))); (focus (simp [Act.eval, Value.cells, List.getD, hs1, hcn]; done)); (exact rfl); clear hK K; clear H; (try clear w2); revert w3; intro w2 H; (try simp [Act.eval, List.getD, hs1, hcn] at H); (try simp [Value.cells, setL, hs1, hcn] at H)) | ((guard_target =~ wpList _ _ _ (Oper.mk _ (.alloc _) _ _ _ _ :: _) _ _; refine BigFrame.wpList_want rfl (fun K hK => ?_); refine o_alloc (z := ?_) rfl ?_ H rfl (fun w3 b2 he H2 => hK _ _ ?_); rotate_left 1; (focus (intro _; simp; with_reducible exact rfl))); clear hK K he; clear H; (try clear w2); revert w3; intro w2 H; (try simp [Act.eval, List.getD, hs1, hcn] at H); (try simp [Value.cells, setL, hs1, hcn] at H); (first | (clear tk0; rename Nat => b2) | (clear tk1; rename Nat => b3))) | (guard_target =~ wpList _ _ _ (Oper.mk _ (.lookup _ _ _ true) _ _ _ _ :: _) _ _; refine BigFrame.wpList_want rfl (fun K hK => ?_); refine o_segOk (m := ?_) rfl rfl rfl H ?_ (hK _ _ ?_); rotate_left 1; (repeat first | exact .head _ | apply List.Mem.tail); clear hK K) | (guard_target =~ wpList _ _ _ (Oper.mk _ (.call { callee := .builtin .len, args := _, argTypes := _ }) _ _ _ _ :: _) _ _; refine BigFrame.wpList_want rfl (fun K hK => ?_); refine o_segLen (m := ?_) rfl H ?_ (hK _ _ ?_); rotate_left 1; (repeat first | exact .head _ | apply List.Mem.tail); clear hK K)); simp only [Act.put, List.setIfInBounds_toArray, List.set_cons_succ, List.set_cons_zero, hs1, hcn]))
            go_ret
            exact ⟨by rw [HZ.out]; rfl, fun _ => (H.sub (by repeat first | exact List.Sublist.refl _ | apply List.Sublist.cons_cons | apply List.Sublist.cons)), fun h => absurd (HZ.out.symm.trans h) (by decide)⟩
          | some e =>
            rw [ho] at h2
            simp only [egV, Option.isSome_some] at h2
            clear ho
            have tk0 : True := trivial
            have tk1 : True := trivial
            go_wp2_with (first
              | (go_at_call 59; (with_reducible refine (h2 _ _ (by exact H.giveRd m2 f9)).mono ?_); rintro e w3 ⟨rfl, hb⟩; replace H := H.ext hb; clear hb; dsimp only)
              | (guard_target =~ wpList _ _ _ (_ :: _) _ _; (first | (guard_target =~ wpList _ _ _ (Oper.mk _ (.load _ _) _ _ _ _ :: _) _ _; refine BigFrame.wpList_want rfl (fun K hK => ?_); (first | (refine o_loadC (v := ?_) (row := ?_) rfl rfl H ?_ ?_ ?_ (hK _ _ ?_); rotate_left 2; (repeat first | exact .head _ | apply List.Mem.tail); (exact rfl); (focus (intro _; simp [hs1, hcn]; done))) | (refine o_loadNC (row := ?_) rfl rfl H ?_ ?_ ?_ (hK _ _ ?_); rotate_left 1; (repeat first | exact .head _ | apply List.Mem.tail); (focus (intro _; simp [hs1, hcn]; done)); (focus (intro _; simp [hs1, hcn]; done)))); clear hK K) | (guard_target =~ wpList _ _ _ (Oper.mk _ (.store _ _ _) _ _ _ _ :: _) _ _; refine BigFrame.wpList_want rfl (fun K hK => ?_); refine o_store (l' := ?_) (row := ?_) rfl rfl H rfl ?_ ?_ ?_ ?_ (fun w3 H2 => hK _ _ ?_); rotate_left 2; (exact r0); (focus (intro _; (simp [Act.eval, Value.cells, List.getD, hs1, hcn]; done))); (focus (simp [Act.eval, Value.cells, List.getD, hs1, hcn]; done)); (exact rfl); clear hK K; clear H; (try clear w2); revert w3; intro w2 H; (try simp [Act.eval, List.getD, hs1, hcn] at H); (try simp [Value.cells, setL, hs1, hcn] at H)) | ((guard_target =~ wpList _ _ _ (Oper.mk _ (.alloc _) _ _ _ _ :: _) _ _; refine BigFrame.wpList_want rfl (fun K hK => ?_); refine o_alloc (z := ?_) rfl ?_ H rfl (fun w3 b2 he H2 => hK _ _ ?_); rotate_left 1; (focus (intro _; simp; with_reducible exact rfl))); clear hK K he; clear H; (try clear w2); revert w3; intro w2 H; (try simp [Act.eval, List.getD, hs1, hcn] at H); (try simp [Value.cells, setL, hs1, hcn] at H); (first | (clear tk0; rename Nat => b2) | (clear tk1; rename Nat => b3))) | (guard_target =~ wpList _ _ _ (Oper.mk _ (.lookup _ _ _ true) _ _ _ _ :: _) _ _; refine BigFrame.wpList_want rfl (fun K hK => ?_); refine o_segOk (m := ?_) rfl rfl rfl H ?_ (hK _ _ ?_); rotate_left 1; (repeat first | exact .head _ | apply List.Mem.tail); clear hK K) | (guard_target =~ wpList _ _ _ (Oper.mk _ (.call { callee := .builtin .len, args := _, argTypes := _ }) _ _ _ _ :: _) _ _; refine BigFrame.wpList_want rfl (fun K hK => ?_); refine o_segLen (m := ?_) rfl H ?_ (hK _ _ ?_); rotate_left 1; (repeat first | exact .head _ | apply List.Mem.tail); clear hK K)); simp only [Act.put, List.setIfInBounds_toArray, List.set_cons_succ, List.set_cons_zero, hs1, hcn]))
            go_ret
            exact ⟨by rw [HZ.out]; rfl, fun _ => (H.sub (by repeat first | exact List.Sublist.refl _ | apply List.Sublist.cons_cons | apply List.Sublist.cons)), fun h => absurd (HZ.out.symm.trans h) (by decide)⟩
end Go.Proofs.Ytlhmjhildlnokaa

/-
  An argument that is a plan: two rows of structs of three integers.
-/
namespace Go.Proofs.Ytlhmjhildlnokaa
set_option linter.unusedVariables false
set_option linter.constructorNameAsVariable false
open Go.RowKit Go.WideShapes Go.ChangeShapes
theorem add_add (a : Addr) (m j : Nat) : (a.add m).add j = a.add (m + j) := by
  by_cases hm : m = 0
  · subst hm; simp [Addr.add]
  · by_cases hj : j = 0
    · subst hj; simp [Addr.add]
    · simp [Addr.add, hm, hj, Nat.add_assoc]
theorem len2 {l : List Value} (h : l.length = 2) : ∃ a b, l = [a, b] := by
  match l, h with
  | [a, b], _ => exact ⟨a, b, rfl⟩
theorem len3 {l : List Value} (h : l.length = 3) : ∃ a b c, l = [a, b, c] := by
  match l, h with
  | [a, b, c], _ => exact ⟨a, b, c, rfl⟩
section
variable {H : Type} {enc : TypeId × Value → H} {P : Program} {w : World} {base : Nat} {spare : Nat → Bool} {held : Bool}
/-- A row of elements, each of three cells. -/
theorem trod_rows {α : Type} {f : α → List Value} {Q : α → Prop} {t e : TypeId} {n : Nat} {cs : List Value} {y : DataW H × List MemPlace} (ht : P.underlying t = some (.slice e)) (hc : P.cellsOf e = 3) (hf3 : ∀ a, (f a).length = 3)
    (hE : ∀ (n : Nat) cs x, DataW.trod enc P w base spare held n e cs = some x → ∃ a, cs = f a ∧ Q a) (h : DataW.trod enc P w base spare held n t cs = some y) :
    ∃ (A : Option Addr) (cap : Nat) (L : List α), cs = [.slice A L.length cap] ∧ L.length ≤ cap ∧ cap ≤ maxLen ∧ (∀ a ∈ L, Q a) ∧ Row w A (L.flatMap f) := by
  rcases DataW.trod_slice ht h with ⟨rfl, _⟩ | ⟨a, len, cap, elems, rest, n', _, rfl, _, hb, hl, hm, hlen, hel, _⟩
  · exact ⟨none, 0, [], rfl, Nat.le_refl _, Nat.zero_le _, by simp, Row.nil_ _ _⟩
  · have each : ∀ i, i < len → ∃ v : α, Q v ∧ ∀ j u, (f v)[j]? = some u → w.cell? (a.add (i * 3 + j)) = some u := by
      intro i hi
      have h1 := hel i hi
      have h2 : elems[i]? = some elems[i] := List.getElem?_eq_getElem (by omega)
      rw [h2, Option.bind_eq_some_iff] at h1
      obtain ⟨cs', h3, h4⟩ := h1
      obtain ⟨v, rfl, hq⟩ := hE _ _ _ h4
      refine ⟨v, hq, fun j u hj => ?_⟩
      have h5 := World.cells?_some h3
      rw [hc] at h5
      have hj3 : j < 3 := by have := (List.getElem?_eq_some_iff.1 hj).1; rw [hf3] at this; exact this
      have := h5.2.2 j hj3
      rw [hj] at this
      rw [← this, add_add]
    have choose : ∀ k, k ≤ len → ∃ L : List α, L.length = k ∧ (∀ v ∈ L, Q v) ∧ ∀ i v, L[i]? = some v → ∀ j u, (f v)[j]? = some u → w.cell? (a.add (i * 3 + j)) = some u := by
      intro k
      induction k with
      | zero => exact fun _ => ⟨[], rfl, by simp, by simp⟩
      | succ k ih =>
        intro hk
        obtain ⟨L, h1, h2, h3⟩ := ih (by omega)
        obtain ⟨v, h4, h5⟩ := each k (by omega)
        refine ⟨L ++ [v], by simp [h1], fun u hu => ?_, fun i u hi => ?_⟩
        · rcases List.mem_append.1 hu with hu | hu
          · exact h2 u hu
          · obtain rfl := List.mem_singleton.1 hu; exact h4
        · rw [List.getElem?_append] at hi
          split at hi
          · exact h3 i u hi
          · rename_i hik
            have : i - L.length = 0 := by
              by_cases h0 : i - L.length = 0
              · exact h0
              · rw [List.getElem?_eq_none (by simp; omega)] at hi; cases hi
            rw [this] at hi
            obtain rfl : v = u := by simpa using hi
            obtain rfl : i = k := by omega
            exact h5
    obtain ⟨L, h1, h2, h3⟩ := choose len (Nat.le_refl _)
    refine ⟨some a, cap, L, by rw [h1], by omega, hm, h2, Row.of_cells fun j v hv => ?_⟩
    have hj : j < L.length * 3 := by have := (List.getElem?_eq_some_iff.1 hv).1; rwa [flat3_len f hf3] at this
    have hi : j / 3 < L.length := by omega
    have hg : L[j / 3]? = some L[j / 3] := List.getElem?_eq_getElem hi
    have hat := flat3_at f hf3 L (j / 3) _ hg
    have := h3 (j / 3) _ hg (j % 3) v (by
      rw [← hat, List.getElem?_take, if_pos (Nat.mod_lt _ (by omega)), List.getElem?_drop, show j / 3 * 3 + j % 3 = j by omega]; exact hv)
    rwa [show j / 3 * 3 + j % 3 = j by omega] at this
/-- Fields of a struct. -/
theorem trod_flds {fs : Array Field} {t : TypeId} {n : Nat} {cs : List Value} {y : DataW H × List MemPlace} {l : List (TypeId × Nat)} (hu : P.underlying t = some (.struct fs)) (hfs : fs.toList.map (fun f => (f.type, f.offset)) = l)
    (h : DataW.trod enc P w base spare held n t cs = some y) : cs.length = P.cellsOf t ∧ ∀ u o, (u, o) ∈ l → ∃ n' x, DataW.trod enc P w base spare held n' u ((cs.drop o).take (P.cellsOf u)) = some x := by
  obtain ⟨xs, n', _, _, hlen, hxl, hx⟩ := DataW.trod_struct hu h
  refine ⟨hlen, fun u o hm => ?_⟩
  rw [← hfs] at hm
  obtain ⟨f, hf, e⟩ := List.mem_map.1 hm
  simp only [Prod.mk.injEq] at e
  obtain ⟨rfl, rfl⟩ := e
  obtain ⟨i, hi⟩ := List.getElem?_of_mem hf
  have hi' : fs[i]? = some f := by simpa using hi
  have := hx i f hi'
  have hil : i < xs.length := by rw [hxl]; exact (Array.getElem?_eq_some_iff.1 hi').1
  rw [List.getElem?_eq_getElem hil] at this
  exact ⟨n', _, this⟩
end
section
variable {H : Type} {enc : TypeId × Value → H} {w : World} {base : Nat} {spare : Nat → Bool} {held : Bool}
theorem wf64 {n : Int} (h : (Lit.int .i64 n).wf = true) : -9223372036854775808 ≤ n ∧ n ≤ 9223372036854775807 := bounds_i64 h
def In64 (n : Int) : Prop := -9223372036854775808 ≤ n ∧ n ≤ 9223372036854775807
theorem trod_pt {n : Nat} {cs : List Value} {y : DataW H × List MemPlace} (h : DataW.trod enc Try.prog w base spare held n 47 cs = some y) : ∃ a b, cs = [.int .i64 a, .int .i64 b] ∧ In64 a ∧ In64 b := by
  have hu : Try.prog.underlying 47 = some (.struct (Try.prog.fieldsOf 47)) := by kernel_rfl
  have hf : (Try.prog.fieldsOf 47).toList.map (fun f => (f.type, f.offset)) = [(3, 0), (3, 1)] := by kernel_rfl
  have hi : Try.prog.underlying 3 = some (.int .i64) := by kernel_rfl
  have hc : Try.prog.cellsOf 3 = 1 := by kernel_rfl
  have hC : Try.prog.cellsOf 47 = 2 := by kernel_rfl
  obtain ⟨hl, hx⟩ := trod_flds hu hf h
  rw [hC] at hl
  obtain ⟨c0, c1, rfl⟩ := len2 hl
  obtain ⟨_, _, h0⟩ := hx 3 0 (by simp)
  obtain ⟨_, _, h1⟩ := hx 3 1 (by simp)
  rw [hc] at h0 h1
  obtain ⟨a, ea, _, wa⟩ := DataW.trod_int hi h0
  obtain ⟨b, eb, _, wb⟩ := DataW.trod_int hi h1
  simp at ea eb
  subst ea eb
  exact ⟨a, b, rfl, bounds_i64 wa, bounds_i64 wb⟩
theorem trod_vt (n : Nat) (cs : List Value) (y : DataW H × List MemPlace) (h : DataW.trod enc Try.prog w base spare held n 49 cs = some y) : ∃ v : Vt, cs = t3 v.id v.p.x v.p.y ∧ (In64 v.id ∧ In64 v.p.x ∧ In64 v.p.y) := by
  have hu : Try.prog.underlying 49 = some (.struct (Try.prog.fieldsOf 49)) := by kernel_rfl
  have hf : (Try.prog.fieldsOf 49).toList.map (fun f => (f.type, f.offset)) = [(3, 0), (47, 1)] := by kernel_rfl
  have hi : Try.prog.underlying 3 = some (.int .i64) := by kernel_rfl
  have hc : Try.prog.cellsOf 3 = 1 := by kernel_rfl
  have hc2 : Try.prog.cellsOf 47 = 2 := by kernel_rfl
  have hC : Try.prog.cellsOf 49 = 3 := by kernel_rfl
  obtain ⟨hl, hx⟩ := trod_flds hu hf h
  rw [hC] at hl
  obtain ⟨c0, c1, c2, rfl⟩ := len3 hl
  obtain ⟨_, _, h0⟩ := hx 3 0 (by simp)
  obtain ⟨_, _, h1⟩ := hx 47 1 (by simp)
  rw [hc] at h0
  rw [hc2] at h1
  obtain ⟨a, ea, _, wa⟩ := DataW.trod_int hi h0
  obtain ⟨b, c, eb, wb, wc⟩ := trod_pt h1
  simp at ea eb
  obtain ⟨e1, e2⟩ := eb
  subst ea e1 e2
  exact ⟨⟨a, ⟨b, c⟩⟩, rfl, bounds_i64 wa, wb, wc⟩
theorem trod_eg (n : Nat) (cs : List Value) (y : DataW H × List MemPlace) (h : DataW.trod enc Try.prog w base spare held n 79 cs = some y) : ∃ v : Eg, cs = t3 v.id v.a v.b ∧ (In64 v.id ∧ In64 v.a ∧ In64 v.b) := by
  have hu : Try.prog.underlying 79 = some (.struct (Try.prog.fieldsOf 79)) := by kernel_rfl
  have hf : (Try.prog.fieldsOf 79).toList.map (fun f => (f.type, f.offset)) = [(3, 0), (3, 1), (3, 2)] := by kernel_rfl
  have hi : Try.prog.underlying 3 = some (.int .i64) := by kernel_rfl
  have hc : Try.prog.cellsOf 3 = 1 := by kernel_rfl
  have hC : Try.prog.cellsOf 79 = 3 := by kernel_rfl
  obtain ⟨hl, hx⟩ := trod_flds hu hf h
  rw [hC] at hl
  obtain ⟨c0, c1, c2, rfl⟩ := len3 hl
  obtain ⟨_, _, h0⟩ := hx 3 0 (by simp)
  obtain ⟨_, _, h1⟩ := hx 3 1 (by simp)
  obtain ⟨_, _, h2⟩ := hx 3 2 (by simp)
  rw [hc] at h0 h1 h2
  obtain ⟨a, ea, _, wa⟩ := DataW.trod_int hi h0
  obtain ⟨b, eb, _, wb⟩ := DataW.trod_int hi h1
  obtain ⟨c, ec, _, wc⟩ := DataW.trod_int hi h2
  simp at ea eb ec
  subst ea eb ec
  exact ⟨⟨a, b, c⟩, rfl, bounds_i64 wa, bounds_i64 wb, bounds_i64 wc⟩
theorem row_sl {A : Option Addr} {xs : List Value} (h : Row w A xs) : Sl (fun _ => False) w A xs := by
  by_cases hp : 0 < xs.length
  · obtain ⟨b, off, rfl, hc⟩ := h hp
    have h0 := hc 0 _ (List.getElem?_eq_getElem hp)
    exact ⟨b, off, fun _ => ⟨rfl, World.block_lt_of_cell? w _ h0, id⟩, hc⟩
  · have : xs = [] := by cases xs with | nil => rfl | cons => simp at hp
    subst this
    exact Sl.nil_ _ _ _
/-- What is handed over in an argument that is a plan. -/
structure PlArg (w : World) (A A2 : Option Addr) (c c2 : Nat) (vs : List Vt) (es : List Eg) : Prop where
  sv : Sl (fun _ => False) w A (vR vs)
  se : Sl (fun _ => False) w A2 (eR es)
  cv : vs.length ≤ c ∧ c ≤ maxLen
  ce : es.length ≤ c2 ∧ c2 ≤ maxLen
  wv : ∀ v ∈ vs, In64 v.id ∧ In64 v.p.x ∧ In64 v.p.y
  we : ∀ e ∈ es, In64 e.id ∧ In64 e.a ∧ In64 e.b
theorem open_plan {r : Reach} {b0 : Nat} {v : Value} {d : DataW H} {p : List MemPlace} (hv : Value.okWide Try.prog w r b0 25 v) (h : DataW.Trod enc Try.prog w base spare held 25 v d p) :
    ∃ A A2 c c2 vs es, v = .agg #[.slice A (vs : List Vt).length c, .slice A2 (es : List Eg).length c2] ∧ PlArg w A A2 c c2 vs es := by
  have hu : Try.prog.underlying 25 = some (.struct (Try.prog.fieldsOf 25)) := by kernel_rfl
  have hf : (Try.prog.fieldsOf 25).toList.map (fun f => (f.type, f.offset)) = [(22, 0), (23, 1)] := by kernel_rfl
  have hC : Try.prog.cellsOf 25 = 2 := by kernel_rfl
  have hc1 : Try.prog.cellsOf 22 = 1 := by kernel_rfl
  have hc2 : Try.prog.cellsOf 23 = 1 := by kernel_rfl
  have hs1 : Try.prog.underlying 22 = some (.slice 49) := by kernel_rfl
  have hs2 : Try.prog.underlying 23 = some (.slice 79) := by kernel_rfl
  simp only [Value.okWide, hu] at hv
  obtain ⟨cs, rfl, hsz, _⟩ := hv
  obtain ⟨fuel, hx⟩ := h
  obtain ⟨hl, hx⟩ := trod_flds hu hf hx
  rw [hC] at hsz
  obtain ⟨l⟩ := cs
  simp only [List.size_toArray] at hsz
  obtain ⟨e0, e1, rfl⟩ := len2 hsz
  obtain ⟨_, _, h0⟩ := hx 22 0 (by simp)
  obtain ⟨_, _, h1⟩ := hx 23 1 (by simp)
  rw [hc1] at h0
  rw [hc2] at h1
  obtain ⟨A, c, vs, k1, k2, k3, k4, k5⟩ := trod_rows hs1 (by kernel_rfl) (fun _ => rfl) trod_vt h0
  obtain ⟨A2, c2, es, l1, l2, l3, l4, l5⟩ := trod_rows hs2 (by kernel_rfl) (fun _ => rfl) trod_eg h1
  simp [Value.cells] at k1 l1
  subst k1 l1
  exact ⟨A, A2, c, c2, vs, es, rfl, row_sl k5, row_sl l5, ⟨k2, k3⟩, ⟨l2, l3⟩, k4, l4⟩
theorem open_pt {r : Reach} {b0 : Nat} {v : Value} {d : DataW H} {p : List MemPlace} (hv : Value.okWide Try.prog w r b0 47 v) (h : DataW.Trod enc Try.prog w base spare held 47 v d p) :
    ∃ a b, v = pV a b ∧ In64 a ∧ In64 b := by
  have hu : Try.prog.underlying 47 = some (.struct (Try.prog.fieldsOf 47)) := by kernel_rfl
  simp only [Value.okWide, hu] at hv
  obtain ⟨cs, rfl, hsz, _⟩ := hv
  obtain ⟨fuel, hx⟩ := h
  obtain ⟨a, b, e, wa, wb⟩ := trod_pt hx
  obtain ⟨l⟩ := cs
  simp [Value.cells] at e
  subst e
  exact ⟨a, b, rfl, wa, wb⟩
end
end Go.Proofs.Ytlhmjhildlnokaa

/-
  The walk of TrapRefuses.
-/
namespace Go.Proofs.Ytlhmjhildlnokaa
set_option linter.unusedVariables false
set_option linter.unusedSimpArgs false
open Go.RowKit Go.Sort Go.Shelf

theorem Sl.drop_ {F : Nat → Prop} {w : World} {b o : Nat} {xs : List Value} (h : Sl F w (some ⟨b, o, none⟩) xs) (k : Nat) : Sl F w (some ⟨b, o + k, none⟩) (xs.drop k) := by
  by_cases hk : k < xs.length
  · obtain ⟨b', off, h1, h2⟩ := h
    obtain ⟨e, h3, h4⟩ := h1 (by omega)
    injection e with e
    injection e with e1 e2
    subst e1 e2
    exact ⟨b, o + k, fun _ => ⟨rfl, h3, h4⟩, fun j v hv => by
      rw [List.getElem?_drop] at hv
      have := h2 (k + j) v hv
      rw [Nat.add_assoc]; exact this⟩
  · rw [List.drop_of_length_le (by omega)]
    exact Sl.nil_ _ _ _
/-- So far: numbers of edges, each once. -/
def chkB (es : List Eg) (os : List Int) : Nat → Bool
  | 0 => true
  | j + 1 => chkB es os j && ((es.find? fun e => e.id == (os[j]?).getD 0).isSome && (os.take j).all fun y => (os[j]?).getD 0 != y)
theorem chk_iff (es : List Eg) (os : List Int) : ∀ j, j ≤ os.length → (chkB es os j = true ↔ (∀ id ∈ os.take j, (es.find? fun e => e.id == id).isSome = true) ∧ (os.take j).Nodup)
  | 0, _ => by simp [chkB]
  | j + 1, hj => by
    obtain ⟨x, hx⟩ : ∃ x, os[j]? = some x := ⟨_, List.getElem?_eq_getElem (by omega)⟩
    have e : os.take (j + 1) = os.take j ++ [x] := by rw [List.take_add_one, hx]; rfl
    unfold chkB
    rw [Bool.and_eq_true, Bool.and_eq_true, chk_iff es os j (by omega), hx, e, List.all_eq_true]
    simp only [Option.getD_some, bne_iff_ne, ne_eq]
    constructor
    · rintro ⟨⟨h1, h2⟩, h3, h4⟩
      refine ⟨fun id hi => ?_, ?_⟩
      · rcases List.mem_append.1 hi with hi | hi
        · exact h1 id hi
        · obtain rfl : id = x := by simpa using hi
          exact h3
      · rw [List.nodup_append]
        refine ⟨h2, by simp, fun a ha b hb hab => ?_⟩
        obtain rfl : b = x := by simpa using hb
        exact h4 a ha hab.symm
    · rintro ⟨h1, h2⟩
      rw [List.nodup_append] at h2
      exact ⟨⟨fun id hi => h1 id (by simp [hi]), h2.1⟩, h1 x (by simp), fun y hy hxy => h2.2.2 y hy x (by simp) hxy.symm⟩
theorem chk_build (vs : List Vt) (es : List Eg) (os : List Int) : (((os.length : Int) == (es.length : Int)) && rightB vs es && chkB es os os.length) = buildB vs es os := by
  unfold buildB
  rw [Bool.eq_iff_iff]
  simp only [Bool.and_eq_true, decide_eq_true_eq, beq_iff_eq]
  rw [chk_iff es os os.length (Nat.le_refl _), List.take_length]
  unfold OrdP
  constructor
  · rintro ⟨⟨h1, h2⟩, h3, h4⟩
    exact ⟨h2, by omega, h3, h4⟩
  · rintro ⟨h1, h2, h3, h4⟩
    exact ⟨⟨by omega, h1⟩, h3, h4⟩
theorem find_ix (es : List Eg) (id : Int) : decide (0 ≤ ixZ (es.findIdx? fun e => e.id == id)) = (es.find? fun e => e.id == id).isSome := by
  cases h : es.findIdx? fun e => e.id == id with
  | none =>
    have : (es.find? fun e => e.id == id) = none := by
      rw [List.find?_eq_none]
      have := List.findIdx?_eq_none_iff.1 h
      intro x hx
      have := this x hx
      simpa using this
    rw [this]; rfl
  | some k =>
    have : (es.find? fun e => e.id == id).isSome = true := by
      rw [List.find?_isSome]
      obtain ⟨h1, h2, _⟩ := List.findIdx?_eq_some_iff_getElem.1 h
      exact ⟨_, List.getElem_mem h1, h2⟩
    rw [this]
    unfold ixZ
    simp
theorem build_yes {vs : List Vt} {es : List Eg} {os : List Int} (hb : buildB vs es os = true) (A A2 A3 : Option Addr) (n m q : Nat) (c c2 c3 : Nat) (hn : n = vs.length) (hm : m = es.length) (hq : q = os.length) (hl : n ≤ 1000000) (hl2 : m ≤ 40) (hc2 : m ≤ c2) (hcc : c2 ≤ maxLen) (F : Nat → Prop) (w : World) (hs : Sl F w A (vR vs)) (hs2 : Sl F w A2 (eR es)) (hs3 : Sl F w A3 (oR os)) (hF : ∀ k, F k → k < w.heap.size) :
    Calls Try.prog 37 #[.agg #[.slice A n c, .slice A2 m c2], .slice A3 q c3] w fun e w' => ∃ X bx ks ke cn cp dn dp, e = .returned (.tuple #[.pointer (some ⟨bx, 0, none⟩), .int .i64 0]) ∧ BldI vs es os X ∧ Own w.heap.size w w' (xL bx ks ke cn cp dn dp X []) := by
  refine (build_any vs es os A A2 A3 n m q c c2 c3 F w hn hm hq hs hs2 hs3 hF hl hl2 hc2 hcc).mono ?_
  rintro e w' (⟨h, _⟩ | ⟨_, h⟩)
  · rw [hb] at h; cases h
  · exact h
theorem build_no {vs : List Vt} {es : List Eg} {os : List Int} (hb : buildB vs es os = false) (A A2 A3 : Option Addr) (n m q : Nat) (c c2 c3 : Nat) (hn : n = vs.length) (hm : m = es.length) (hq : q = os.length) (hl : n ≤ 1000000) (hl2 : m ≤ 40) (hc2 : m ≤ c2) (hcc : c2 ≤ maxLen) (F : Nat → Prop) (w : World) (hs : Sl F w A (vR vs)) (hs2 : Sl F w A2 (eR es)) (hs3 : Sl F w A3 (oR os)) (hF : ∀ k, F k → k < w.heap.size) :
    Calls Try.prog 37 #[.agg #[.slice A n c, .slice A2 m c2], .slice A3 q c3] w fun e w' => e = .returned (.tuple #[.pointer none, .int .i64 1]) ∧ Below w.heap.size w w' := by
  refine (build_any vs es os A A2 A3 n m q c c2 c3 F w hn hm hq hs hs2 hs3 hF hl hl2 hc2 hcc).mono ?_
  rintro e w' (⟨_, h⟩ | ⟨h, _⟩)
  · exact h
  · rw [hb] at h; cases h
theorem ids_nodup' {vs : List Vt} {es : List Eg} (H : RightP vs es) : (es.map (·.id)).Nodup := by
  rw [List.Nodup, List.pairwise_map]
  exact H.two.imp fun h => by have := h.1; omega
theorem find_edge' {vs : List Vt} {es : List Eg} (H : RightP vs es) {e : Eg} (he : e ∈ es) : (es.find? fun f => f.id == e.id) = some e := by
  have hs : (es.find? fun f => f.id == e.id).isSome = true := List.find?_isSome.2 ⟨e, he, by simp⟩
  obtain ⟨x, y, h1, h2⟩ := edge_find hs
  rw [h1]
  have hn := ids_nodup' H
  obtain ⟨i, hi⟩ := List.getElem?_of_mem h2
  obtain ⟨j, hj⟩ := List.getElem?_of_mem he
  have : i = j := (List.getElem?_inj (l := es.map (·.id)) (by rw [List.length_map]; exact (List.getElem?_eq_some_iff.1 hi).1) hn).1 (by rw [List.getElem?_map, List.getElem?_map, hi, hj]; rfl)
  rw [this, hj] at hi
  exact hi.symm
theorem ord_mem {vs : List Vt} {es : List Eg} {os : List Int} (H : RightP vs es) (O : OrdP es os) {e : Eg} (he : e ∈ es) : e.id ∈ os := by
  -- as many, each once
  have key : ∀ (l m : List Int), l.Nodup → (∀ x ∈ l, x ∈ m) → l.length = m.length → ∀ x ∈ m, x ∈ l := by
    intro l
    induction l with
    | nil => intro m _ _ h x hx; rw [List.length_eq_zero_iff.1 h.symm] at hx; cases hx
    | cons a l ih =>
      intro m h1 h2 h3 x hx
      have ha := h2 a (by simp)
      have h1' := List.nodup_cons.1 h1
      have hl := List.length_pos_of_mem ha
      by_cases e : x = a
      · rw [e]; simp
      · exact List.mem_cons_of_mem _ (ih (m.erase a) h1'.2 (fun y hy => (List.mem_erase_of_ne (by rintro rfl; exact h1'.1 hy)).2 (h2 y (by simp [hy]))) (by
          rw [List.length_erase_of_mem ha]; simp only [List.length_cons] at h3; omega) x ((List.mem_erase_of_ne e).2 hx))
  refine key os (es.map (·.id)) O.2.2 (fun id hi => ?_) (by rw [List.length_map]; exact O.1) e.id (List.mem_map.2 ⟨e, he, rfl⟩)
  obtain ⟨x, y, _, h2⟩ := edge_find (O.2.1 id hi)
  exact List.mem_map.2 ⟨_, h2, rfl⟩
theorem bld_has {vs : List Vt} {es : List Eg} {os : List Int} {X : IxS} (H : RightP vs es) (O : OrdP es os) (I : BldI vs es os X) {e : Eg} (he : e ∈ es) : getA X.S e.id = some (segZ vs e.a e.b) := by
  rw [I.puts.S_]
  have hk : ((segsOf vs es os).reverse.map (·.1)).Nodup := by rw [List.map_reverse, segs_keys]; exact (List.reverse_perm os).nodup_iff.2 I.nodup
  rw [getA_some hk, List.mem_reverse]
  unfold segsOf
  refine List.mem_map.2 ⟨e.id, ord_mem H O he, ?_⟩
  unfold segI
  rw [find_edge' H he]
theorem others_count {vs : List Vt} {es : List Eg} (H : RightP vs es) (edge : Int) : othersN es edge + (if (es.find? fun e => e.id == edge).isSome then 1 else 0) = es.length := by
  have hn := ids_nodup' H
  clear H
  induction es with
  | nil => rfl
  | cons a l ih =>
    rw [List.map_cons, List.nodup_cons] at hn
    have ih := ih hn.2
    unfold othersN at ih ⊢
    rw [List.countP_cons, List.find?_cons, List.length_cons]
    cases h : a.id == edge
    · simp only [Bool.not_false, if_true]
      omega
    · simp only [Bool.not_true, Bool.false_eq_true, if_false, Option.isSome_some, if_true]
      have : (l.find? fun e => e.id == edge) = none := by
        rw [List.find?_eq_none]
        intro x hx
        have h' : a.id = edge := by simpa using h
        simp only [beq_iff_eq]
        intro e
        exact hn.1 (List.mem_map.2 ⟨x, hx, by rw [e, h']⟩)
      rw [this] at ih
      simp only [Option.isSome_none, Bool.false_eq_true, if_false, Nat.add_zero] at ih
      omega
theorem segs_len (vs : List Vt) (es : List Eg) (os : List Int) : ((segsOf vs es os).reverse).length = os.length := by rw [List.length_reverse]; unfold segsOf; rw [List.length_map]
theorem bld_there {vs : List Vt} {es : List Eg} {os : List Int} {X : IxS} (H : RightP vs es) (O : OrdP es os) (I : BldI vs es os X) (edge : Int) : (getA X.S edge).isSome = (es.find? fun e => e.id == edge).isSome := by
  rw [bld_get I]
  cases h : (es.find? fun e => e.id == edge) with
  | none =>
    refine decide_eq_false fun hm => ?_
    have := I.ids edge hm
    rw [h] at this; cases this
  | some e =>
    obtain ⟨x, y, h1, h2⟩ := edge_find (es := es) (id := edge) (by rw [h]; rfl)
    exact decide_eq_true (ord_mem H O h2)
theorem add_built {vs : List Vt} {es : List Eg} {os : List Int} {X : IxS} (hr : rightB vs es = true) (O : OrdP es os) (I : BldI vs es os X) (edge : Int) : addZ vs es X.S edge = if (es.find? fun e => e.id == edge).isSome then 7 else 6 := by
  have H := rightT_P hr
  have ht := bld_there H O I edge
  rw [add_rest hr ?_ ?_, ht]
  · cases (es.find? fun e => e.id == edge).isSome <;> rfl
  · rw [List.all_eq_true]
    intro e he
    unfold hasE
    rw [bld_has H O I he]
    simp
  · rw [ht, others_count H edge, I.puts.S_, segs_len]; exact O.1.symm
theorem add_tail {vs : List Vt} {e0 : Eg} {es : List Eg} {os : List Int} {X : IxS} (hr : rightB vs (e0 :: es) = true) (O : OrdP (e0 :: es) os) (I : BldI vs (e0 :: es) os X) {edge : Int} (hne : (e0.id == edge) = false) : addZ vs es X.S edge = 1 := by
  cases h1 : rightB vs es
  · exact add_right h1
  · have H := rightT_P hr
    have ht := bld_there H O I edge
    refine add_count ?_
    rw [ht, List.find?_cons, hne]
    have := others_count (rightT_P h1) edge
    rw [I.puts.S_, segs_len, O.1]
    simp only [List.length_cons]
    try simp only at this ⊢
    omega
/-! ### The walk -/
set_option maxRecDepth 200000 in
set_option maxHeartbeats 64000000 in
theorem law_TrapRefuses (A A2 : Option Addr) (c c2 : Nat) (vs : List Vt) (es : List Eg) (A3 : Option Addr) (c3 : Nat) (os : List Int) (edge px py : Int) (w : World) (hp : PlArg w A A2 c c2 vs es) (hs3 : Sl (fun _ => False) w A3 (oR os)) :
    Calls Try.prog 11 #[.agg #[.slice A vs.length c, .slice A2 es.length c2], .slice A3 os.length c3, .int .i64 edge, pV px py] w fun e w' => e = .returned (.bool true) ∧ Below w.heap.size w w' := by
  obtain ⟨hs, hs2, hcv, hce, _, _⟩ := hp
  obtain ⟨F0, hF0⟩ : ∃ F0 : Nat → Prop, F0 = fun _ => False := ⟨_, rfl⟩
  have hFF : ∀ k, F0 k → k < w.heap.size := fun k h => by rw [hF0] at h; exact h.elim
  rw [← hF0] at hs hs2 hs3
  clear hF0
  obtain ⟨b0, o0, H1, f0⟩ := (Own.start w).addSl (hs.ro (by rfl))
  obtain ⟨b9, o9, H2, f9⟩ := H1.addSl (hs2.ro (by rfl))
  obtain ⟨b8, o8, H, f8⟩ := H2.addSl (hs3.ro (by rfl))
  clear hs hs2 hs3 H1 H2
  have hfw := few21_any A A2 vs.length es.length c c2
  obtain ⟨v0, hv0⟩ : ∃ v, (decide (vs.length ≤ 40) && decide (es.length ≤ 40)) = v := ⟨_, rfl⟩
  rw [hv0] at hfw
  cases v0
  · clear hv0
    go_enter Try.func11, Try.ntmps11
    have tk0 : True := trivial
    go_wp2_with (first
      | (go_at_call 36; (with_reducible refine (hfw _).mono ?_); rintro e w3 ⟨rfl, hb⟩; replace H := H.ext hb; clear hb; dsimp only; (skip))
      | (go_at_call 35; (with_reducible refine (awake21_any _).mono ?_); rintro e w3 ⟨rfl, hb⟩; replace H := H.ext hb; clear hb; dsimp only; (skip))
      | (guard_target =~ wpList _ _ _ (_ :: _) _ _; (first | (guard_target =~ wpList _ _ _ (Oper.mk _ (.load _ _) _ _ _ _ :: _) _ _; refine BigFrame.wpList_want rfl (fun K hK => ?_); (refine o_loadNC (row := ?_) rfl rfl H ?_ ?_ ?_ (hK _ _ ?_); rotate_left 1; (repeat first | exact .head _ | apply List.Mem.tail); (focus (intro _; simp; done)); (focus (intro _; simp; done))); clear hK K) | ((guard_target =~ wpList _ _ _ (Oper.mk _ (.box _ _) _ _ _ _ :: _) _ _; refine BigFrame.wpList_want rfl (fun K hK => ?_); refine o_box rfl H rfl (fun w3 b2 he H2 => hK _ _ ?_)); clear hK K he; clear H; (try clear w2); revert w3; intro w2 H; simp [Act.eval, Value.cells, setL, List.getD] at H; (first | (clear tk0; rename Nat => b1) | (skip)))); simp only [Act.put, List.setIfInBounds_toArray, List.set_cons_succ, List.set_cons_zero]))
    exact bodyPost_ret (v := .bool true) (by simp [results, Try.results11]) rfl ⟨rfl, H.below⟩
  have hl : vs.length ≤ 40 := by simp at hv0; omega
  have hl2 : es.length ≤ 40 := by simp at hv0; omega
  clear hv0
  obtain ⟨n, hn⟩ : ∃ n, n = vs.length := ⟨_, rfl⟩
  obtain ⟨m, hm⟩ : ∃ n, n = es.length := ⟨_, rfl⟩
  obtain ⟨q, hq⟩ : ∃ n, n = os.length := ⟨_, rfl⟩
  rw [← hn] at hl
  rw [← hm] at hl2
  have hc2 := hce.1
  have hcc := hce.2
  rw [← hm] at hc2
  rw [← hn, ← hm] at hfw
  rw [← hn, ← hm, ← hq]
  by_cases h100 : 100 < q
  · clear hn hm hq
    go_enter Try.func11, Try.ntmps11
    have tk0 : True := trivial
    go_wp2_with (first
      | (go_at_call 36; (with_reducible refine (hfw _).mono ?_); rintro e w3 ⟨rfl, hb⟩; replace H := H.ext hb; clear hb; dsimp only; (skip))
      | (go_at_call 35; (with_reducible refine (awake21_any _).mono ?_); rintro e w3 ⟨rfl, hb⟩; replace H := H.ext hb; clear hb; dsimp only; (skip))
      | (guard_target =~ wpList _ _ _ (_ :: _) _ _; (first | (guard_target =~ wpList _ _ _ (Oper.mk _ (.load _ _) _ _ _ _ :: _) _ _; refine BigFrame.wpList_want rfl (fun K hK => ?_); (refine o_loadNC (row := ?_) rfl rfl H ?_ ?_ ?_ (hK _ _ ?_); rotate_left 1; (repeat first | exact .head _ | apply List.Mem.tail); (focus (intro _; simp; done)); (focus (intro _; simp; done))); clear hK K) | ((guard_target =~ wpList _ _ _ (Oper.mk _ (.box _ _) _ _ _ _ :: _) _ _; refine BigFrame.wpList_want rfl (fun K hK => ?_); refine o_box rfl H rfl (fun w3 b2 he H2 => hK _ _ ?_)); clear hK K he; clear H; (try clear w2); revert w3; intro w2 H; simp [Act.eval, Value.cells, setL, List.getD] at H; (first | (clear tk0; rename Nat => b1) | (skip)))); simp only [Act.put, List.setIfInBounds_toArray, List.set_cons_succ, List.set_cons_zero]))
    exact bodyPost_ret (v := .bool true) (by simp [results, Try.results11]) rfl ⟨rfl, H.below⟩
  have hq100 : q ≤ 100 := by omega
  have h5 := fun F w h1 h2 => refRight_any vs es A A2 n m c c2 F w hn hm h1 h2 (by omega) (by omega) hc2 hcc
  have h7 := fun F w h x => refEdge_any es A2 A m n c2 c F x w hm h (by omega)
  rw [← right_same] at h5
  have hN1 := findN_any px py
  have hN2 := addN_any (.agg #[.slice A n c, .slice A2 m c2]) edge
  have HN := Lib.hid hn
  have HM := Lib.hid hm
  have HQ := Lib.hid hq
  obtain ⟨c0, hc0⟩ : ∃ c0, (((q : Int) == (m : Int)) && rightB vs es) = c0 := ⟨_, rfl⟩
  have HC0 := Lib.hid hc0
  cases hb : buildB vs es os
  · have hbld := build_no hb A A2 A3 n m q c c2 c3 hn hm hq (by omega) hl2 hc2 hcc
    have HB := Lib.hid hb
    clear hb hn hm hq h100 hc0
    go_enter Try.func11, Try.ntmps11
    have tk0 : True := trivial
    have tk1 : True := trivial
    go_upto_region 4 with (first
      | (go_at_call 36; (with_reducible refine (hfw _).mono ?_); rintro e w3 ⟨rfl, hb⟩; replace H := H.ext hb; clear hb; dsimp only; (skip))
      | (go_at_call 35; (with_reducible refine (awake21_any _).mono ?_); rintro e w3 ⟨rfl, hb⟩; replace H := H.ext hb; clear hb; dsimp only; (skip))
      | (go_at_call 38; (with_reducible refine (plain21_any _ _ _ _ _ _ _).mono ?_); rintro e w3 ⟨rfl, hb⟩; replace H := H.ext hb; clear hb; dsimp only; (skip))
      | (go_at_call 37; (with_reducible refine (hbld _ _ (by exact H.giveRd m4 f0) (by exact H.giveRd m3 f9) (by exact H.giveRd m2 f8) (H.fw_lt rfl hFF)).mono ?_); rintro e w3 ⟨rfl, hb⟩; replace H := H.ext hb; clear hb; dsimp only; (skip))
      | (guard_target =~ wpList _ _ _ (_ :: _) _ _; (first | (guard_target =~ wpList _ _ _ (Oper.mk _ (.load _ _) _ _ _ _ :: _) _ _; refine BigFrame.wpList_want rfl (fun K hK => ?_); (refine o_loadNC (row := ?_) rfl rfl H ?_ ?_ ?_ (hK _ _ ?_); rotate_left 1; (repeat first | exact .head _ | apply List.Mem.tail); (focus (intro _; simp; done)); (focus (intro _; simp; done))); clear hK K) | ((guard_target =~ wpList _ _ _ (Oper.mk _ (.box _ _) _ _ _ _ :: _) _ _; refine BigFrame.wpList_want rfl (fun K hK => ?_); refine o_box rfl H rfl (fun w3 b2 he H2 => hK _ _ ?_)); clear hK K he; clear H; (try clear w2); revert w3; intro w2 H; simp [Act.eval, Value.cells, setL, List.getD] at H; (first | (clear tk0; rename Nat => b1) | (clear tk1; rename Nat => b2)))); simp only [Act.put, List.setIfInBounds_toArray, List.set_cons_succ, List.set_cons_zero]))
    go_cut [11] (fun u wx => u = .bool c0 ∧ Own w.heap.size w wx [.cells b2 [.int .i64 px, .int .i64 py], .cells b1 [.slice A n c, .slice A2 m c2], .rd A3 b8 o8 (oR os), .rd A2 b9 o9 (eR es), .rd A b0 o0 (vR vs)])
    case first =>
      cases hqm : ((q : Int) == (m : Int))
      · obtain rfl : false = c0 := by rw [← HC0.out, hqm]; rfl
        go_wp2_with (first
          | go_big_skip
          | (guard_target =~ wpList _ _ _ (_ :: _) _ _; (guard_target =~ wpList _ _ _ (Oper.mk _ (.load _ _) _ _ _ _ :: _) _ _; refine BigFrame.wpList_want rfl (fun K hK => ?_); (refine o_loadC (v := ?_) (row := ?_) rfl rfl H ?_ ?_ ?_ (hK _ _ ?_); rotate_left 2; (repeat first | exact .head _ | apply List.Mem.tail); (exact rfl); (focus (intro _; simp [hqm]; done))); clear hK K); simp only [Act.put, List.setIfInBounds_toArray, List.set_cons_succ, List.set_cons_zero, hqm]))
        go_meet
        case rel => exact ⟨rfl, (H.sub (by repeat first | exact List.Sublist.refl _ | apply List.Sublist.cons_cons | apply List.Sublist.cons))⟩
      · obtain rfl : rightB vs es = c0 := by rw [← HC0.out, hqm]; simp
        go_wp2_with (first
          | (go_at_call 16; (with_reducible refine (h5 _ _ (by exact H.giveRd m4 f0) (by exact H.giveRd m3 f9)).mono ?_); rintro e w3 ⟨rfl, hb⟩; replace H := H.ext hb; clear hb; dsimp only; (skip))
          | (guard_target =~ wpList _ _ _ (_ :: _) _ _; (guard_target =~ wpList _ _ _ (Oper.mk _ (.load _ _) _ _ _ _ :: _) _ _; refine BigFrame.wpList_want rfl (fun K hK => ?_); (first | (refine o_loadC (v := ?_) (row := ?_) rfl rfl H ?_ ?_ ?_ (hK _ _ ?_); rotate_left 2; (repeat first | exact .head _ | apply List.Mem.tail); (exact rfl); (focus (intro _; simp [hqm]; done))) | (refine o_loadNC (row := ?_) rfl rfl H ?_ ?_ ?_ (hK _ _ ?_); rotate_left 1; (repeat first | exact .head _ | apply List.Mem.tail); (focus (intro _; simp [hqm]; done)); (focus (intro _; simp [hqm]; done)))); clear hK K); simp only [Act.put, List.setIfInBounds_toArray, List.set_cons_succ, List.set_cons_zero, hqm]))
        go_meet
        case rel => exact ⟨rfl, (H.sub (by repeat first | exact List.Sublist.refl _ | apply List.Sublist.cons_cons | apply List.Sublist.cons))⟩
    case rest =>
      clear H h5
      obtain ⟨rfl, H⟩ := hcut
      go_wp2_with (first | fail)
      go_loopg [12, 11] q (fun k i o wr => k ≤ q ∧ i = .int .i64 ((q - k : Nat) : Int) ∧ o = .bool (c0 && chkB es os (q - k)) ∧ Own w.heap.size w wr ([.cells b2 [.int .i64 px, .int .i64 py], .cells b1 [.slice A n c, .slice A2 m c2], .rd A3 b8 o8 (oR os), .rd A2 b9 o9 (eR es), .rd A b0 o0 (vR vs)]))
      case atStart => exact ⟨Nat.le_refl _, by simp, by rw [Nat.sub_self]; simp [chkB], H⟩
      case round =>
        clear H
        obtain ⟨hk, rfl, rfl, H⟩ := hrel
        by_cases hlt : 0 < gk
        · obtain ⟨j, hj⟩ : ∃ j, q - gk = j := ⟨_, rfl⟩
          have hjl : j < q := by omega
          rw [hj]
          obtain ⟨x, he⟩ : ∃ x, os[j]? = some x := ⟨_, List.getElem?_eq_getElem (by have := HQ.out; omega)⟩
          have he2 := oR_get he
          obtain rfl := H.rdAddr m2 (Nat.lt_of_le_of_lt (Nat.zero_le _) (List.getElem?_eq_some_iff.1 he2).1)
          have hp := at_rd (A := some ⟨b8, o8, none⟩) (b := b8) (off := o8) he2
          have hfx := find_ix es x
          obtain ⟨o, ho⟩ : ∃ o, ixZ (es.findIdx? fun e => e.id == x) = o := ⟨_, rfl⟩
          obtain ⟨fd, hfd⟩ : ∃ o, (es.find? fun e => e.id == x).isSome = o := ⟨_, rfl⟩
          have h8 := fun F w a => h7 F w a x
          rw [ho] at h8 hfx
          rw [hfd] at hfx
          have hcs : chkB es os (j + 1) = (chkB es os j && (fd && (os.take j).all fun y => x != y)) := by
            rw [← hfd]
            show (_ && (_ && _)) = _
            rw [he]; rfl
          have HJ := Lib.hid hj
          have HCS := Lib.hid hcs
          obtain ⟨g1, hg1⟩ : ∃ g, g = gk := ⟨_, rfl⟩
          have HG1 := Lib.hid hg1
          clear he he2 hj hcs ho hfd hg1
          obtain ⟨v, hv⟩ : ∃ v, (c0 && chkB es os j) = v := ⟨_, rfl⟩
          have HV := Lib.hid hv
          rw [hv]
          clear hv
          go_upto_region 8 with (first | fail)
          go_cut [11] (fun u wx => u = .bool (v && fd) ∧ Own w.heap.size w wx ([.cells b2 [.int .i64 px, .int .i64 py], .cells b1 [.slice A n c, .slice A2 m c2], .rd (some ⟨b8, o8, none⟩) b8 o8 (oR os), .rd A2 b9 o9 (eR es), .rd A b0 o0 (vR vs)]))
          case first =>
            cases v
            · go_wp2_with (first
                | (guard_target =~ Code.wp _ (Code.region 8 _ true) _ _ _; refine region_treeC0 8 (G := True) (.q 0 (.q 1 (.q 2 (.q 3 (.q 4 (.q 5 (.q 6 (.q 7 (.q 8 (.q 9 (.q 10 .nil))))))))))) (by kernel_rfl) (by intro c a d v w h; cases d <;> first | exact h | exact hQ h) (by kernel_rfl) H ⟨trivial⟩ (fun _ w3 H2 => ?_); (clear H; (try clear w2); revert w3; intro w2 H))
                | (guard_target =~ wpTreeC _ _ _ _ _ _ _; first | (guard_target =~ wpTreeC _ _ _ (Tr.e _ Tr.nil) _ _ _; refine treeC_last (by decide +kernel) H rfl rfl (fun w3 H2 K hK => ?_); clear H; (try clear w2); (revert w3; intro w2 H); simp only [List.getElem_toArray, List.getElem_cons_succ, List.getElem_cons_zero]; (first | fail); simp only [Act.put, List.setIfInBounds_toArray, List.set_cons_succ, List.set_cons_zero]) | (guard_target =~ wpTreeC _ _ _ (Tr.q _ _) _ _ _; first | (refine treeC_quiet ⟨_, H, by repeat first | exact .here | apply Suf.there⟩ rfl rfl rfl (fun K hK => ?_); simp only [List.getElem_toArray, List.getElem_cons_succ, List.getElem_cons_zero]; first | (guard_target =~ Oper.quiet _ (Oper.mk _ (.load _ _) _ _ _ _) _ _ _; (first | fail); clear hK K; simp only [Act.put, List.setIfInBounds_toArray, List.set_cons_succ, List.set_cons_zero]) | (go_big_quiet_op; (try refine ⟨_, fun _ _ => rfl, ?_⟩); refine hK _ ?_; clear hK K)) | (refine treeC_call (v := ?_) ⟨_, H, by repeat first | exact .here | apply Suf.there⟩ rfl rfl (fun w3 H K hK => ?_) ?_; rotate_left 1; (focus (simp only [List.getElem_toArray, List.getElem_cons_succ, List.getElem_cons_zero]; first | (go_big_op; first | exact hK _ (Ext.refl _)))); simp only [List.getElem_toArray, List.getElem_cons_succ, List.getElem_cons_zero, Act.put, List.setIfInBounds_toArray, List.set_cons_succ, List.set_cons_zero]) | (refine treeC_skip ⟨_, H, by repeat first | exact .here | apply Suf.there⟩ rfl rfl ?_; simp only [List.getElem_toArray, List.getElem_cons_succ, List.getElem_cons_zero, Act.put, List.setIfInBounds_toArray, List.set_cons_succ, List.set_cons_zero])) | (guard_target =~ wpTreeC _ _ _ (Tr.both _ _) _ _ _; refine treeC_both ?_ ?_) | (guard_target =~ wpTreeC _ _ _ (Tr.e _ _) _ _ _; first | (refine treeC_one H rfl rfl (fun w3 H2 K hK => ?_); clear H; (try clear w2); (revert w3; intro w2 H); simp only [List.getElem_toArray, List.getElem_cons_succ, List.getElem_cons_zero]; first | ((first | fail); simp only [Act.put, List.setIfInBounds_toArray, List.set_cons_succ, List.set_cons_zero]) | (go_big_op; (first | fail))) | (refine treeC_one_skip (fun w3 hx => ⟨_, H.ext hx, by repeat first | exact .here | apply Suf.there⟩) rfl rfl (fun w3 hx => ?_); replace H := H.ext hx; clear hx; (try clear w2); revert w3; intro w2 H; simp only [List.getElem_toArray, List.getElem_cons_succ, List.getElem_cons_zero, Act.put, List.setIfInBounds_toArray, List.set_cons_succ, List.set_cons_zero])) | (guard_target =~ wpTreeC _ _ _ Tr.nil _ _ _; refine treeC_nil H (fun w3 H2 => ?_); clear H; (try clear w2); revert w3; intro w2 H)))
              go_meet
              case rel => exact ⟨rfl, (H.sub (by repeat first | exact List.Sublist.refl _ | apply List.Sublist.cons_cons | apply List.Sublist.cons))⟩
            · go_wp2_with (first
                | (guard_target =~ Code.wp _ (Code.region 8 _ true) _ _ _; refine region_treeC0 8 (G := True) (.q 0 (.q 1 (.q 2 (.q 3 (.q 4 (.q 5 (.q 6 (.q 7 (.q 8 (.q 9 (.q 10 .nil))))))))))) (by kernel_rfl) (by intro c a d v w h; cases d <;> first | exact h | exact hQ h) (by kernel_rfl) H ⟨trivial⟩ (fun _ w3 H2 => ?_); (clear H; (try clear w2); revert w3; intro w2 H))
                | (guard_target =~ wpTreeC _ _ _ _ _ _ _; first | (guard_target =~ wpTreeC _ _ _ (Tr.e _ Tr.nil) _ _ _; refine treeC_last (by decide +kernel) H rfl rfl (fun w3 H2 K hK => ?_); clear H; (try clear w2); (revert w3; intro w2 H); simp only [List.getElem_toArray, List.getElem_cons_succ, List.getElem_cons_zero]; (first | fail); simp only [Act.put, List.setIfInBounds_toArray, List.set_cons_succ, List.set_cons_zero, hfx]) | (guard_target =~ wpTreeC _ _ _ (Tr.q _ _) _ _ _; first | (refine treeC_quiet ⟨_, H, by repeat first | exact .here | apply Suf.there⟩ rfl rfl rfl (fun K hK => ?_); simp only [List.getElem_toArray, List.getElem_cons_succ, List.getElem_cons_zero]; first | (guard_target =~ Oper.quiet _ (Oper.mk _ (.load _ _) _ _ _ _) _ _ _; (first | (refine q_load (v := ?_) (r := ?_) rfl rfl ?_ ?_ ?_ (hK _ ?_); rotate_left 2; (with_reducible assumption); (repeat first | exact .head _ | apply List.Mem.tail); (focus (intro _; simp [hfx]; done))) | (refine q_loadNC (row := ?_) rfl rfl ?_ ?_ ?_ (hK _ ?_); rotate_left 1; (repeat first | exact .head _ | apply List.Mem.tail); (focus (intro _; simp [hfx]; done)); (focus (intro _; simp [hfx]; done)))); clear hK K; simp only [Act.put, List.setIfInBounds_toArray, List.set_cons_succ, List.set_cons_zero, hfx]) | (go_big_quiet_op; (try refine ⟨_, fun _ _ => rfl, ?_⟩); refine hK _ ?_; clear hK K)) | (refine treeC_call (v := ?_) ⟨_, H, by repeat first | exact .here | apply Suf.there⟩ rfl rfl (fun w3 H K hK => ?_) ?_; rotate_left 1; (focus (simp only [List.getElem_toArray, List.getElem_cons_succ, List.getElem_cons_zero]; first | (go_big_op; first | exact hK _ (Ext.refl _) | (go_at_call 30; (with_reducible refine (h8 _ _ (by exact H.giveRd m3 f9)).mono ?_); rintro e w3 ⟨rfl, hb⟩; dsimp only; first | exact hK _ hb | exact hK _ (Ext.refl _))))); simp only [List.getElem_toArray, List.getElem_cons_succ, List.getElem_cons_zero, Act.put, List.setIfInBounds_toArray, List.set_cons_succ, List.set_cons_zero, hfx]) | (refine treeC_skip ⟨_, H, by repeat first | exact .here | apply Suf.there⟩ rfl rfl ?_; simp only [List.getElem_toArray, List.getElem_cons_succ, List.getElem_cons_zero, Act.put, List.setIfInBounds_toArray, List.set_cons_succ, List.set_cons_zero, hfx])) | (guard_target =~ wpTreeC _ _ _ (Tr.both _ _) _ _ _; refine treeC_both ?_ ?_) | (guard_target =~ wpTreeC _ _ _ (Tr.e _ _) _ _ _; first | (refine treeC_one H rfl rfl (fun w3 H2 K hK => ?_); clear H; (try clear w2); (revert w3; intro w2 H); simp only [List.getElem_toArray, List.getElem_cons_succ, List.getElem_cons_zero]; first | ((first | fail); simp only [Act.put, List.setIfInBounds_toArray, List.set_cons_succ, List.set_cons_zero, hfx]) | (go_big_op; (first | fail))) | (refine treeC_one_skip (fun w3 hx => ⟨_, H.ext hx, by repeat first | exact .here | apply Suf.there⟩) rfl rfl (fun w3 hx => ?_); replace H := H.ext hx; clear hx; (try clear w2); revert w3; intro w2 H; simp only [List.getElem_toArray, List.getElem_cons_succ, List.getElem_cons_zero, Act.put, List.setIfInBounds_toArray, List.set_cons_succ, List.set_cons_zero, hfx])) | (guard_target =~ wpTreeC _ _ _ Tr.nil _ _ _; refine treeC_nil H (fun w3 H2 => ?_); clear H; (try clear w2); revert w3; intro w2 H)))
              go_meet
              case rel => exact ⟨by simp, (H.sub (by repeat first | exact List.Sublist.refl _ | apply List.Sublist.cons_cons | apply List.Sublist.cons))⟩
          case rest =>
            clear H
            obtain ⟨rfl, H⟩ := hcut
            obtain ⟨v2, hv2⟩ : ∃ v2, (v && fd) = v2 := ⟨_, rfl⟩
            rw [hv2]
            have HV2 := Lib.hid hv2
            clear hv2 hfx h8
            go_wp2_with (first | fail)
            go_loopg [13, 11] j (fun k i o wr => k ≤ j ∧ i = .int .i64 ((j - k : Nat) : Int) ∧ o = .bool (v2 && (os.take (j - k)).all fun y => x != y) ∧ Own w.heap.size w wr ([.cells b2 [.int .i64 px, .int .i64 py], .cells b1 [.slice A n c, .slice A2 m c2], .rd (some ⟨b8, o8, none⟩) b8 o8 (oR os), .rd A2 b9 o9 (eR es), .rd A b0 o0 (vR vs)]))
            case atStart => exact ⟨Nat.le_refl _, by simp, by simp, (H.sub (by repeat first | exact List.Sublist.refl _ | apply List.Sublist.cons_cons | apply List.Sublist.cons))⟩
            case round =>
              clear H
              obtain ⟨hk2, rfl, rfl, H⟩ := hrel
              by_cases hlt2 : 0 < gk
              · obtain ⟨k, hkk⟩ : ∃ k, j - gk = k := ⟨_, rfl⟩
                have hkl : k < j := by omega
                rw [hkk]
                obtain ⟨y, hy⟩ : ∃ y, os[k]? = some y := ⟨_, List.getElem?_eq_getElem (by have := HQ.out; omega)⟩
                have hp2 := at_rd (A := some ⟨b8, o8, none⟩) (b := b8) (off := o8) (oR_get hy)
                have has : (os.take (k + 1)).all (fun y => x != y) = ((os.take k).all (fun y => x != y) && (x != y)) := by rw [List.take_add_one, hy, List.all_append]; simp
                obtain ⟨v3, hv3⟩ : ∃ v3, (v2 && (os.take k).all fun y => x != y) = v3 := ⟨_, rfl⟩
                rw [hv3]
                obtain ⟨v4, hv4⟩ : ∃ v4, (x != y) = v4 := ⟨_, rfl⟩
                rw [hv4] at has
                have HAS := Lib.hid has
                have HV3 := Lib.hid hv3
                have HKK := Lib.hid hkk
                clear has hv3 hkk hy
                cases v3
                · go_wp2_with (first
                    | (guard_target =~ Code.wp _ (Code.region 12 _ true) _ _ _; refine region_treeC0 12 (G := True) (.q 0 (.q 1 (.q 2 (.q 3 (.q 4 (.q 5 (.q 6 (.q 7 (.q 8 (.q 9 (.q 10 (.q 11 (.q 12 .nil))))))))))))) (by kernel_rfl) (by intro c a d v w h; cases d <;> first | exact h | exact hQ h) (by kernel_rfl) H ⟨trivial⟩ (fun _ w3 H2 => ?_); (clear H; (try clear w2); revert w3; intro w2 H))
                    | (guard_target =~ wpTreeC _ _ _ _ _ _ _; first | (guard_target =~ wpTreeC _ _ _ (Tr.e _ Tr.nil) _ _ _; refine treeC_last (by decide +kernel) H rfl rfl (fun w3 H2 K hK => ?_); clear H; (try clear w2); (revert w3; intro w2 H); simp only [List.getElem_toArray, List.getElem_cons_succ, List.getElem_cons_zero]; (first | fail); simp only [Act.put, List.setIfInBounds_toArray, List.set_cons_succ, List.set_cons_zero]) | (guard_target =~ wpTreeC _ _ _ (Tr.q _ _) _ _ _; first | (refine treeC_quiet ⟨_, H, by repeat first | exact .here | apply Suf.there⟩ rfl rfl rfl (fun K hK => ?_); simp only [List.getElem_toArray, List.getElem_cons_succ, List.getElem_cons_zero]; first | (guard_target =~ Oper.quiet _ (Oper.mk _ (.load _ _) _ _ _ _) _ _ _; (first | fail); clear hK K; simp only [Act.put, List.setIfInBounds_toArray, List.set_cons_succ, List.set_cons_zero]) | (go_big_quiet_op; (try refine ⟨_, fun _ _ => rfl, ?_⟩); refine hK _ ?_; clear hK K)) | (refine treeC_call (v := ?_) ⟨_, H, by repeat first | exact .here | apply Suf.there⟩ rfl rfl (fun w3 H K hK => ?_) ?_; rotate_left 1; (focus (simp only [List.getElem_toArray, List.getElem_cons_succ, List.getElem_cons_zero]; first | (go_big_op; first | exact hK _ (Ext.refl _)))); simp only [List.getElem_toArray, List.getElem_cons_succ, List.getElem_cons_zero, Act.put, List.setIfInBounds_toArray, List.set_cons_succ, List.set_cons_zero]) | (refine treeC_skip ⟨_, H, by repeat first | exact .here | apply Suf.there⟩ rfl rfl ?_; simp only [List.getElem_toArray, List.getElem_cons_succ, List.getElem_cons_zero, Act.put, List.setIfInBounds_toArray, List.set_cons_succ, List.set_cons_zero])) | (guard_target =~ wpTreeC _ _ _ (Tr.both _ _) _ _ _; refine treeC_both ?_ ?_) | (guard_target =~ wpTreeC _ _ _ (Tr.e _ _) _ _ _; first | (refine treeC_one H rfl rfl (fun w3 H2 K hK => ?_); clear H; (try clear w2); (revert w3; intro w2 H); simp only [List.getElem_toArray, List.getElem_cons_succ, List.getElem_cons_zero]; first | ((first | fail); simp only [Act.put, List.setIfInBounds_toArray, List.set_cons_succ, List.set_cons_zero]) | (go_big_op; (first | fail))) | (refine treeC_one_skip (fun w3 hx => ⟨_, H.ext hx, by repeat first | exact .here | apply Suf.there⟩) rfl rfl (fun w3 hx => ?_); replace H := H.ext hx; clear hx; (try clear w2); revert w3; intro w2 H; simp only [List.getElem_toArray, List.getElem_cons_succ, List.getElem_cons_zero, Act.put, List.setIfInBounds_toArray, List.set_cons_succ, List.set_cons_zero])) | (guard_target =~ wpTreeC _ _ _ Tr.nil _ _ _; refine treeC_nil H (fun w3 H2 => ?_); clear H; (try clear w2); revert w3; intro w2 H)))
                  go_roundg (gk - 1)
                  case rel =>
                    have e := show j - (gk - 1) = k + 1 by have := HKK.out; omega
                    exact ⟨by omega, by rw [e]; simp, by rw [e, HAS.out, ← Bool.and_assoc, HV3.out]; rfl, (H.sub (by repeat first | exact List.Sublist.refl _ | apply List.Sublist.cons_cons | apply List.Sublist.cons))⟩
                  case measure => omega
                · go_wp2_with (first
                    | (guard_target =~ Code.wp _ (Code.region 12 _ true) _ _ _; refine region_treeC0 12 (G := True) (.q 0 (.q 1 (.q 2 (.q 3 (.q 4 (.q 5 (.q 6 (.q 7 (.q 8 (.q 9 (.q 10 (.q 11 (.q 12 .nil))))))))))))) (by kernel_rfl) (by intro c a d v w h; cases d <;> first | exact h | exact hQ h) (by kernel_rfl) H ⟨trivial⟩ (fun _ w3 H2 => ?_); (clear H; (try clear w2); revert w3; intro w2 H))
                    | (guard_target =~ wpTreeC _ _ _ _ _ _ _; first | (guard_target =~ wpTreeC _ _ _ (Tr.e _ Tr.nil) _ _ _; refine treeC_last (by decide +kernel) H rfl rfl (fun w3 H2 K hK => ?_); clear H; (try clear w2); (revert w3; intro w2 H); simp only [List.getElem_toArray, List.getElem_cons_succ, List.getElem_cons_zero]; (first | fail); simp only [Act.put, List.setIfInBounds_toArray, List.set_cons_succ, List.set_cons_zero, hv4]) | (guard_target =~ wpTreeC _ _ _ (Tr.q _ _) _ _ _; first | (refine treeC_quiet ⟨_, H, by repeat first | exact .here | apply Suf.there⟩ rfl rfl rfl (fun K hK => ?_); simp only [List.getElem_toArray, List.getElem_cons_succ, List.getElem_cons_zero]; first | (guard_target =~ Oper.quiet _ (Oper.mk _ (.load _ _) _ _ _ _) _ _ _; (refine q_load (v := ?_) (r := ?_) rfl rfl ?_ ?_ ?_ (hK _ ?_); rotate_left 2; (with_reducible assumption); (repeat first | exact .head _ | apply List.Mem.tail); (focus (intro _; simp [hv4]; done))); clear hK K; simp only [Act.put, List.setIfInBounds_toArray, List.set_cons_succ, List.set_cons_zero, hv4]) | (go_big_quiet_op; (try refine ⟨_, fun _ _ => rfl, ?_⟩); refine hK _ ?_; clear hK K)) | (refine treeC_call (v := ?_) ⟨_, H, by repeat first | exact .here | apply Suf.there⟩ rfl rfl (fun w3 H K hK => ?_) ?_; rotate_left 1; (focus (simp only [List.getElem_toArray, List.getElem_cons_succ, List.getElem_cons_zero]; first | (go_big_op; first | exact hK _ (Ext.refl _)))); simp only [List.getElem_toArray, List.getElem_cons_succ, List.getElem_cons_zero, Act.put, List.setIfInBounds_toArray, List.set_cons_succ, List.set_cons_zero, hv4]) | (refine treeC_skip ⟨_, H, by repeat first | exact .here | apply Suf.there⟩ rfl rfl ?_; simp only [List.getElem_toArray, List.getElem_cons_succ, List.getElem_cons_zero, Act.put, List.setIfInBounds_toArray, List.set_cons_succ, List.set_cons_zero, hv4])) | (guard_target =~ wpTreeC _ _ _ (Tr.both _ _) _ _ _; refine treeC_both ?_ ?_) | (guard_target =~ wpTreeC _ _ _ (Tr.e _ _) _ _ _; first | (refine treeC_one H rfl rfl (fun w3 H2 K hK => ?_); clear H; (try clear w2); (revert w3; intro w2 H); simp only [List.getElem_toArray, List.getElem_cons_succ, List.getElem_cons_zero]; first | ((first | fail); simp only [Act.put, List.setIfInBounds_toArray, List.set_cons_succ, List.set_cons_zero, hv4]) | (go_big_op; (first | fail))) | (refine treeC_one_skip (fun w3 hx => ⟨_, H.ext hx, by repeat first | exact .here | apply Suf.there⟩) rfl rfl (fun w3 hx => ?_); replace H := H.ext hx; clear hx; (try clear w2); revert w3; intro w2 H; simp only [List.getElem_toArray, List.getElem_cons_succ, List.getElem_cons_zero, Act.put, List.setIfInBounds_toArray, List.set_cons_succ, List.set_cons_zero, hv4])) | (guard_target =~ wpTreeC _ _ _ Tr.nil _ _ _; refine treeC_nil H (fun w3 H2 => ?_); clear H; (try clear w2); revert w3; intro w2 H)))
                  go_roundg (gk - 1)
                  case rel =>
                    have e := show j - (gk - 1) = k + 1 by have := HKK.out; omega
                    exact ⟨by omega, by rw [e]; simp, by rw [e, HAS.out, ← Bool.and_assoc, HV3.out]; rfl, (H.sub (by repeat first | exact List.Sublist.refl _ | apply List.Sublist.cons_cons | apply List.Sublist.cons))⟩
                  case measure => omega
              · obtain rfl : gk = 0 := by omega
                go_wp2_with (first | fail)
                go_roundg (g1 - 1)
                case rel =>
                  have e := show q - (g1 - 1) = j + 1 by have := HJ.out; have := HG1.out; omega
                  exact ⟨by have := HG1.out; omega, by rw [e]; simp, by rw [e, HCS.out, Nat.sub_zero, ← HV2.out, ← HV.out]; simp [Bool.and_assoc], (H.sub (by repeat first | exact List.Sublist.refl _ | apply List.Sublist.cons_cons | apply List.Sublist.cons))⟩
                case measure => have := HG1.out; omega
        · obtain rfl : gk = 0 := by omega
          have hbo : (c0 && chkB es os (q - 0)) = false := by
            have hcb := chk_build vs es os
            rw [← HQ.out, ← HM.out] at hcb
            rw [Nat.sub_zero, ← HC0.out]
            exact hcb.trans HB.out
          rw [hbo]
          clear hbo
          have tk0 : True := trivial
          go_wp2_with (first
            | (go_at_call 41; (with_reducible refine (hN1 _).mono ?_); rintro e w3 ⟨rfl, hb⟩; replace H := H.ext hb; clear hb; dsimp only; (skip))
            | (go_at_call 44; (with_reducible refine (hN2 _).mono ?_); rintro e w3 ⟨rfl, hb⟩; replace H := H.ext hb; clear hb; dsimp only; (skip))
            | (go_at_call 46; (with_reducible refine (xlenN_any _).mono ?_); rintro e w3 ⟨rfl, hb⟩; replace H := H.ext hb; clear hb; dsimp only; (skip))
            | (go_at_call 40; (with_reducible refine (tallN_any _).mono ?_); rintro e w3 ⟨rfl, hb⟩; replace H := H.ext hb; clear hb; dsimp only; (skip))
            | (go_at_call 38; (with_reducible refine (plain21_any _ _ _ _ _ _ _).mono ?_); rintro e w3 ⟨rfl, hb⟩; replace H := H.ext hb; clear hb; dsimp only; (skip))
            | (guard_target =~ wpList _ _ _ (_ :: _) _ _; (first | (guard_target =~ wpList _ _ _ (Oper.mk _ (.load _ _) _ _ _ _ :: _) _ _; refine BigFrame.wpList_want rfl (fun K hK => ?_); (refine o_loadNC (row := ?_) rfl rfl H ?_ ?_ ?_ (hK _ _ ?_); rotate_left 1; (repeat first | exact .head _ | apply List.Mem.tail); (focus (intro _; simp; done)); (focus (intro _; simp; done))); clear hK K) | (guard_target =~ wpList _ _ _ (Oper.mk _ (.store _ _ _) _ _ _ _ :: _) _ _; refine BigFrame.wpList_want rfl (fun K hK => ?_); refine o_store (l' := ?_) (row := ?_) rfl rfl H rfl ?_ ?_ ?_ ?_ (fun w3 H2 => hK _ _ ?_); rotate_left 2; (exact r0); (focus (intro _; simp [Act.eval, Value.cells]; done)); (focus (simp [Act.eval, Value.cells]; done)); (exact rfl); clear hK K; clear H; (try clear w2); revert w3; intro w2 H; simp [Act.eval, Value.cells, setL, List.getD] at H) | ((guard_target =~ wpList _ _ _ (Oper.mk _ (.alloc _) _ _ _ _ :: _) _ _; refine BigFrame.wpList_want rfl (fun K hK => ?_); refine o_alloc (z := ?_) rfl ?_ H rfl (fun w3 b2 he H2 => hK _ _ ?_); rotate_left 1; (focus (intro _; simp; with_reducible exact rfl))); clear hK K he; clear H; (try clear w2); revert w3; intro w2 H; simp [Act.eval, Value.cells, setL, List.getD] at H; (clear tk0; rename Nat => b3))); simp only [Act.put, List.setIfInBounds_toArray, List.set_cons_succ, List.set_cons_zero]))
          exact bodyPost_ret (v := .bool true) (by simp [results, Try.results11]) rfl ⟨rfl, H.below⟩
  · obtain ⟨hR, hO⟩ : rightB vs es = true ∧ OrdP es os := by unfold buildB at hb; rw [Bool.and_eq_true, decide_eq_true_eq] at hb; exact hb
    have hbld := build_yes hb A A2 A3 n m q c c2 c3 hn hm hq (by omega) hl2 hc2 hcc
    have HB := Lib.hid hb
    have HR := Lib.hid hR
    have HO := Lib.hid hO
    clear hb hn hm hq h100 hc0 hR hO
    go_enter Try.func11, Try.ntmps11
    have tk0 : True := trivial
    have tk1 : True := trivial
    go_upto_region 4 with (first
      | (go_at_call 36; (with_reducible refine (hfw _).mono ?_); rintro e w3 ⟨rfl, hb⟩; replace H := H.ext hb; clear hb; dsimp only; (skip))
      | (go_at_call 35; (with_reducible refine (awake21_any _).mono ?_); rintro e w3 ⟨rfl, hb⟩; replace H := H.ext hb; clear hb; dsimp only; (skip))
      | (go_at_call 38; (with_reducible refine (plain21_any _ _ _ _ _ _ _).mono ?_); rintro e w3 ⟨rfl, hb⟩; replace H := H.ext hb; clear hb; dsimp only; (skip))
      | (go_at_call 37; (with_reducible refine (hbld _ _ (by exact H.giveRd m4 f0) (by exact H.giveRd m3 f9) (by exact H.giveRd m2 f8) (H.fw_lt rfl hFF)).mono ?_); rintro e w3 ⟨X, bx, ks, ke, cn, cp, dn, dp, rfl, hI, H2⟩; replace H := H.join H2 rfl; clear H2; simp only [xL, List.cons_append, List.nil_append] at H; dsimp only; (skip))
      | (guard_target =~ wpList _ _ _ (_ :: _) _ _; (first | (guard_target =~ wpList _ _ _ (Oper.mk _ (.load _ _) _ _ _ _ :: _) _ _; refine BigFrame.wpList_want rfl (fun K hK => ?_); (refine o_loadNC (row := ?_) rfl rfl H ?_ ?_ ?_ (hK _ _ ?_); rotate_left 1; (repeat first | exact .head _ | apply List.Mem.tail); (focus (intro _; simp; done)); (focus (intro _; simp; done))); clear hK K) | ((guard_target =~ wpList _ _ _ (Oper.mk _ (.box _ _) _ _ _ _ :: _) _ _; refine BigFrame.wpList_want rfl (fun K hK => ?_); refine o_box rfl H rfl (fun w3 b2 he H2 => hK _ _ ?_)); clear hK K he; clear H; (try clear w2); revert w3; intro w2 H; simp [Act.eval, Value.cells, setL, List.getD] at H; (first | (clear tk0; rename Nat => b1) | (clear tk1; rename Nat => b2)))); simp only [Act.put, List.setIfInBounds_toArray, List.set_cons_succ, List.set_cons_zero]))
    have HI := Lib.hid hI
    clear hI
    go_cut [11] (fun u wx => u = .bool c0 ∧ Own w.heap.size w wx (xL bx ks ke cn cp dn dp X [.cells b2 [.int .i64 px, .int .i64 py], .cells b1 [.slice A n c, .slice A2 m c2], .rd A3 b8 o8 (oR os), .rd A2 b9 o9 (eR es), .rd A b0 o0 (vR vs)]))
    case first =>
      cases hqm : ((q : Int) == (m : Int))
      · obtain rfl : false = c0 := by rw [← HC0.out, hqm]; rfl
        go_wp2_with (first
          | go_big_skip
          | (guard_target =~ wpList _ _ _ (_ :: _) _ _; (guard_target =~ wpList _ _ _ (Oper.mk _ (.load _ _) _ _ _ _ :: _) _ _; refine BigFrame.wpList_want rfl (fun K hK => ?_); (refine o_loadC (v := ?_) (row := ?_) rfl rfl H ?_ ?_ ?_ (hK _ _ ?_); rotate_left 2; (repeat first | exact .head _ | apply List.Mem.tail); (exact rfl); (focus (intro _; simp [hqm]; done))); clear hK K); simp only [Act.put, List.setIfInBounds_toArray, List.set_cons_succ, List.set_cons_zero, hqm]))
        go_meet
        case rel => exact ⟨rfl, (H.sub (by repeat first | exact List.Sublist.refl _ | apply List.Sublist.cons_cons | apply List.Sublist.cons))⟩
      · obtain rfl : rightB vs es = c0 := by rw [← HC0.out, hqm]; simp
        go_wp2_with (first
          | (go_at_call 16; (with_reducible refine (h5 _ _ (by exact H.giveRd m9 f0) (by exact H.giveRd m8 f9)).mono ?_); rintro e w3 ⟨rfl, hb⟩; replace H := H.ext hb; clear hb; dsimp only; (skip))
          | (guard_target =~ wpList _ _ _ (_ :: _) _ _; (guard_target =~ wpList _ _ _ (Oper.mk _ (.load _ _) _ _ _ _ :: _) _ _; refine BigFrame.wpList_want rfl (fun K hK => ?_); (first | (refine o_loadC (v := ?_) (row := ?_) rfl rfl H ?_ ?_ ?_ (hK _ _ ?_); rotate_left 2; (repeat first | exact .head _ | apply List.Mem.tail); (exact rfl); (focus (intro _; simp [hqm]; done))) | (refine o_loadNC (row := ?_) rfl rfl H ?_ ?_ ?_ (hK _ _ ?_); rotate_left 1; (repeat first | exact .head _ | apply List.Mem.tail); (focus (intro _; simp [hqm]; done)); (focus (intro _; simp [hqm]; done)))); clear hK K); simp only [Act.put, List.setIfInBounds_toArray, List.set_cons_succ, List.set_cons_zero, hqm]))
        go_meet
        case rel => exact ⟨rfl, (H.sub (by repeat first | exact List.Sublist.refl _ | apply List.Sublist.cons_cons | apply List.Sublist.cons))⟩
    case rest =>
      clear H h5
      obtain ⟨rfl, H⟩ := hcut
      go_wp2_with (first | fail)
      go_loopg [12, 11] q (fun k i o wr => k ≤ q ∧ i = .int .i64 ((q - k : Nat) : Int) ∧ o = .bool (c0 && chkB es os (q - k)) ∧ Own w.heap.size w wr (xL bx ks ke cn cp dn dp X [.cells b2 [.int .i64 px, .int .i64 py], .cells b1 [.slice A n c, .slice A2 m c2], .rd A3 b8 o8 (oR os), .rd A2 b9 o9 (eR es), .rd A b0 o0 (vR vs)]))
      case atStart => exact ⟨Nat.le_refl _, by simp, by rw [Nat.sub_self]; simp [chkB], H⟩
      case round =>
        clear H
        obtain ⟨hk, rfl, rfl, H⟩ := hrel
        by_cases hlt : 0 < gk
        · obtain ⟨j, hj⟩ : ∃ j, q - gk = j := ⟨_, rfl⟩
          have hjl : j < q := by omega
          rw [hj]
          obtain ⟨x, he⟩ : ∃ x, os[j]? = some x := ⟨_, List.getElem?_eq_getElem (by have := HQ.out; omega)⟩
          have he2 := oR_get he
          obtain rfl := H.rdAddr m7 (Nat.lt_of_le_of_lt (Nat.zero_le _) (List.getElem?_eq_some_iff.1 he2).1)
          have hp := at_rd (A := some ⟨b8, o8, none⟩) (b := b8) (off := o8) he2
          have hfx := find_ix es x
          obtain ⟨o, ho⟩ : ∃ o, ixZ (es.findIdx? fun e => e.id == x) = o := ⟨_, rfl⟩
          obtain ⟨fd, hfd⟩ : ∃ o, (es.find? fun e => e.id == x).isSome = o := ⟨_, rfl⟩
          have h8 := fun F w a => h7 F w a x
          rw [ho] at h8 hfx
          rw [hfd] at hfx
          have hcs : chkB es os (j + 1) = (chkB es os j && (fd && (os.take j).all fun y => x != y)) := by
            rw [← hfd]
            show (_ && (_ && _)) = _
            rw [he]; rfl
          have HJ := Lib.hid hj
          have HCS := Lib.hid hcs
          obtain ⟨g1, hg1⟩ : ∃ g, g = gk := ⟨_, rfl⟩
          have HG1 := Lib.hid hg1
          clear he he2 hj hcs ho hfd hg1
          obtain ⟨v, hv⟩ : ∃ v, (c0 && chkB es os j) = v := ⟨_, rfl⟩
          have HV := Lib.hid hv
          rw [hv]
          clear hv
          go_upto_region 8 with (first | fail)
          go_cut [11] (fun u wx => u = .bool (v && fd) ∧ Own w.heap.size w wx (xL bx ks ke cn cp dn dp X [.cells b2 [.int .i64 px, .int .i64 py], .cells b1 [.slice A n c, .slice A2 m c2], .rd (some ⟨b8, o8, none⟩) b8 o8 (oR os), .rd A2 b9 o9 (eR es), .rd A b0 o0 (vR vs)]))
          case first =>
            cases v
            · go_wp2_with (first
                | (guard_target =~ Code.wp _ (Code.region 8 _ true) _ _ _; refine region_treeC0 8 (G := True) (.q 0 (.q 1 (.q 2 (.q 3 (.q 4 (.q 5 (.q 6 (.q 7 (.q 8 (.q 9 (.q 10 .nil))))))))))) (by kernel_rfl) (by intro c a d v w h; cases d <;> first | exact h | exact hQ h) (by kernel_rfl) H ⟨trivial⟩ (fun _ w3 H2 => ?_); (clear H; (try clear w2); revert w3; intro w2 H))
                | (guard_target =~ wpTreeC _ _ _ _ _ _ _; first | (guard_target =~ wpTreeC _ _ _ (Tr.e _ Tr.nil) _ _ _; refine treeC_last (by decide +kernel) H rfl rfl (fun w3 H2 K hK => ?_); clear H; (try clear w2); (revert w3; intro w2 H); simp only [List.getElem_toArray, List.getElem_cons_succ, List.getElem_cons_zero]; (first | fail); simp only [Act.put, List.setIfInBounds_toArray, List.set_cons_succ, List.set_cons_zero]) | (guard_target =~ wpTreeC _ _ _ (Tr.q _ _) _ _ _; first | (refine treeC_quiet ⟨_, H, by repeat first | exact .here | apply Suf.there⟩ rfl rfl rfl (fun K hK => ?_); simp only [List.getElem_toArray, List.getElem_cons_succ, List.getElem_cons_zero]; first | (guard_target =~ Oper.quiet _ (Oper.mk _ (.load _ _) _ _ _ _) _ _ _; (first | fail); clear hK K; simp only [Act.put, List.setIfInBounds_toArray, List.set_cons_succ, List.set_cons_zero]) | (go_big_quiet_op; (try refine ⟨_, fun _ _ => rfl, ?_⟩); refine hK _ ?_; clear hK K)) | (refine treeC_call (v := ?_) ⟨_, H, by repeat first | exact .here | apply Suf.there⟩ rfl rfl (fun w3 H K hK => ?_) ?_; rotate_left 1; (focus (simp only [List.getElem_toArray, List.getElem_cons_succ, List.getElem_cons_zero]; first | (go_big_op; first | exact hK _ (Ext.refl _)))); simp only [List.getElem_toArray, List.getElem_cons_succ, List.getElem_cons_zero, Act.put, List.setIfInBounds_toArray, List.set_cons_succ, List.set_cons_zero]) | (refine treeC_skip ⟨_, H, by repeat first | exact .here | apply Suf.there⟩ rfl rfl ?_; simp only [List.getElem_toArray, List.getElem_cons_succ, List.getElem_cons_zero, Act.put, List.setIfInBounds_toArray, List.set_cons_succ, List.set_cons_zero])) | (guard_target =~ wpTreeC _ _ _ (Tr.both _ _) _ _ _; refine treeC_both ?_ ?_) | (guard_target =~ wpTreeC _ _ _ (Tr.e _ _) _ _ _; first | (refine treeC_one H rfl rfl (fun w3 H2 K hK => ?_); clear H; (try clear w2); (revert w3; intro w2 H); simp only [List.getElem_toArray, List.getElem_cons_succ, List.getElem_cons_zero]; first | ((first | fail); simp only [Act.put, List.setIfInBounds_toArray, List.set_cons_succ, List.set_cons_zero]) | (go_big_op; (first | fail))) | (refine treeC_one_skip (fun w3 hx => ⟨_, H.ext hx, by repeat first | exact .here | apply Suf.there⟩) rfl rfl (fun w3 hx => ?_); replace H := H.ext hx; clear hx; (try clear w2); revert w3; intro w2 H; simp only [List.getElem_toArray, List.getElem_cons_succ, List.getElem_cons_zero, Act.put, List.setIfInBounds_toArray, List.set_cons_succ, List.set_cons_zero])) | (guard_target =~ wpTreeC _ _ _ Tr.nil _ _ _; refine treeC_nil H (fun w3 H2 => ?_); clear H; (try clear w2); revert w3; intro w2 H)))
              go_meet
              case rel => exact ⟨rfl, (H.sub (by repeat first | exact List.Sublist.refl _ | apply List.Sublist.cons_cons | apply List.Sublist.cons))⟩
            · go_wp2_with (first
                | (guard_target =~ Code.wp _ (Code.region 8 _ true) _ _ _; refine region_treeC0 8 (G := True) (.q 0 (.q 1 (.q 2 (.q 3 (.q 4 (.q 5 (.q 6 (.q 7 (.q 8 (.q 9 (.q 10 .nil))))))))))) (by kernel_rfl) (by intro c a d v w h; cases d <;> first | exact h | exact hQ h) (by kernel_rfl) H ⟨trivial⟩ (fun _ w3 H2 => ?_); (clear H; (try clear w2); revert w3; intro w2 H))
                | (guard_target =~ wpTreeC _ _ _ _ _ _ _; first | (guard_target =~ wpTreeC _ _ _ (Tr.e _ Tr.nil) _ _ _; refine treeC_last (by decide +kernel) H rfl rfl (fun w3 H2 K hK => ?_); clear H; (try clear w2); (revert w3; intro w2 H); simp only [List.getElem_toArray, List.getElem_cons_succ, List.getElem_cons_zero]; (first | fail); simp only [Act.put, List.setIfInBounds_toArray, List.set_cons_succ, List.set_cons_zero, hfx]) | (guard_target =~ wpTreeC _ _ _ (Tr.q _ _) _ _ _; first | (refine treeC_quiet ⟨_, H, by repeat first | exact .here | apply Suf.there⟩ rfl rfl rfl (fun K hK => ?_); simp only [List.getElem_toArray, List.getElem_cons_succ, List.getElem_cons_zero]; first | (guard_target =~ Oper.quiet _ (Oper.mk _ (.load _ _) _ _ _ _) _ _ _; (first | (refine q_load (v := ?_) (r := ?_) rfl rfl ?_ ?_ ?_ (hK _ ?_); rotate_left 2; (with_reducible assumption); (repeat first | exact .head _ | apply List.Mem.tail); (focus (intro _; simp [hfx]; done))) | (refine q_loadNC (row := ?_) rfl rfl ?_ ?_ ?_ (hK _ ?_); rotate_left 1; (repeat first | exact .head _ | apply List.Mem.tail); (focus (intro _; simp [hfx]; done)); (focus (intro _; simp [hfx]; done)))); clear hK K; simp only [Act.put, List.setIfInBounds_toArray, List.set_cons_succ, List.set_cons_zero, hfx]) | (go_big_quiet_op; (try refine ⟨_, fun _ _ => rfl, ?_⟩); refine hK _ ?_; clear hK K)) | (refine treeC_call (v := ?_) ⟨_, H, by repeat first | exact .here | apply Suf.there⟩ rfl rfl (fun w3 H K hK => ?_) ?_; rotate_left 1; (focus (simp only [List.getElem_toArray, List.getElem_cons_succ, List.getElem_cons_zero]; first | (go_big_op; first | exact hK _ (Ext.refl _) | (go_at_call 30; (with_reducible refine (h8 _ _ (by exact H.giveRd m8 f9)).mono ?_); rintro e w3 ⟨rfl, hb⟩; dsimp only; first | exact hK _ hb | exact hK _ (Ext.refl _))))); simp only [List.getElem_toArray, List.getElem_cons_succ, List.getElem_cons_zero, Act.put, List.setIfInBounds_toArray, List.set_cons_succ, List.set_cons_zero, hfx]) | (refine treeC_skip ⟨_, H, by repeat first | exact .here | apply Suf.there⟩ rfl rfl ?_; simp only [List.getElem_toArray, List.getElem_cons_succ, List.getElem_cons_zero, Act.put, List.setIfInBounds_toArray, List.set_cons_succ, List.set_cons_zero, hfx])) | (guard_target =~ wpTreeC _ _ _ (Tr.both _ _) _ _ _; refine treeC_both ?_ ?_) | (guard_target =~ wpTreeC _ _ _ (Tr.e _ _) _ _ _; first | (refine treeC_one H rfl rfl (fun w3 H2 K hK => ?_); clear H; (try clear w2); (revert w3; intro w2 H); simp only [List.getElem_toArray, List.getElem_cons_succ, List.getElem_cons_zero]; first | ((first | fail); simp only [Act.put, List.setIfInBounds_toArray, List.set_cons_succ, List.set_cons_zero, hfx]) | (go_big_op; (first | fail))) | (refine treeC_one_skip (fun w3 hx => ⟨_, H.ext hx, by repeat first | exact .here | apply Suf.there⟩) rfl rfl (fun w3 hx => ?_); replace H := H.ext hx; clear hx; (try clear w2); revert w3; intro w2 H; simp only [List.getElem_toArray, List.getElem_cons_succ, List.getElem_cons_zero, Act.put, List.setIfInBounds_toArray, List.set_cons_succ, List.set_cons_zero, hfx])) | (guard_target =~ wpTreeC _ _ _ Tr.nil _ _ _; refine treeC_nil H (fun w3 H2 => ?_); clear H; (try clear w2); revert w3; intro w2 H)))
              go_meet
              case rel => exact ⟨by simp, (H.sub (by repeat first | exact List.Sublist.refl _ | apply List.Sublist.cons_cons | apply List.Sublist.cons))⟩
          case rest =>
            clear H
            obtain ⟨rfl, H⟩ := hcut
            obtain ⟨v2, hv2⟩ : ∃ v2, (v && fd) = v2 := ⟨_, rfl⟩
            rw [hv2]
            have HV2 := Lib.hid hv2
            clear hv2 hfx h8
            go_wp2_with (first | fail)
            go_loopg [13, 11] j (fun k i o wr => k ≤ j ∧ i = .int .i64 ((j - k : Nat) : Int) ∧ o = .bool (v2 && (os.take (j - k)).all fun y => x != y) ∧ Own w.heap.size w wr (xL bx ks ke cn cp dn dp X [.cells b2 [.int .i64 px, .int .i64 py], .cells b1 [.slice A n c, .slice A2 m c2], .rd (some ⟨b8, o8, none⟩) b8 o8 (oR os), .rd A2 b9 o9 (eR es), .rd A b0 o0 (vR vs)]))
            case atStart => exact ⟨Nat.le_refl _, by simp, by simp, (H.sub (by repeat first | exact List.Sublist.refl _ | apply List.Sublist.cons_cons | apply List.Sublist.cons))⟩
            case round =>
              clear H
              obtain ⟨hk2, rfl, rfl, H⟩ := hrel
              by_cases hlt2 : 0 < gk
              · obtain ⟨k, hkk⟩ : ∃ k, j - gk = k := ⟨_, rfl⟩
                have hkl : k < j := by omega
                rw [hkk]
                obtain ⟨y, hy⟩ : ∃ y, os[k]? = some y := ⟨_, List.getElem?_eq_getElem (by have := HQ.out; omega)⟩
                have hp2 := at_rd (A := some ⟨b8, o8, none⟩) (b := b8) (off := o8) (oR_get hy)
                have has : (os.take (k + 1)).all (fun y => x != y) = ((os.take k).all (fun y => x != y) && (x != y)) := by rw [List.take_add_one, hy, List.all_append]; simp
                obtain ⟨v3, hv3⟩ : ∃ v3, (v2 && (os.take k).all fun y => x != y) = v3 := ⟨_, rfl⟩
                rw [hv3]
                obtain ⟨v4, hv4⟩ : ∃ v4, (x != y) = v4 := ⟨_, rfl⟩
                rw [hv4] at has
                have HAS := Lib.hid has
                have HV3 := Lib.hid hv3
                have HKK := Lib.hid hkk
                clear has hv3 hkk hy
                cases v3
                · go_wp2_with (first
                    | (guard_target =~ Code.wp _ (Code.region 12 _ true) _ _ _; refine region_treeC0 12 (G := True) (.q 0 (.q 1 (.q 2 (.q 3 (.q 4 (.q 5 (.q 6 (.q 7 (.q 8 (.q 9 (.q 10 (.q 11 (.q 12 .nil))))))))))))) (by kernel_rfl) (by intro c a d v w h; cases d <;> first | exact h | exact hQ h) (by kernel_rfl) H ⟨trivial⟩ (fun _ w3 H2 => ?_); (clear H; (try clear w2); revert w3; intro w2 H))
                    | (guard_target =~ wpTreeC _ _ _ _ _ _ _; first | (guard_target =~ wpTreeC _ _ _ (Tr.e _ Tr.nil) _ _ _; refine treeC_last (by decide +kernel) H rfl rfl (fun w3 H2 K hK => ?_); clear H; (try clear w2); (revert w3; intro w2 H); simp only [List.getElem_toArray, List.getElem_cons_succ, List.getElem_cons_zero]; (first | fail); simp only [Act.put, List.setIfInBounds_toArray, List.set_cons_succ, List.set_cons_zero]) | (guard_target =~ wpTreeC _ _ _ (Tr.q _ _) _ _ _; first | (refine treeC_quiet ⟨_, H, by repeat first | exact .here | apply Suf.there⟩ rfl rfl rfl (fun K hK => ?_); simp only [List.getElem_toArray, List.getElem_cons_succ, List.getElem_cons_zero]; first | (guard_target =~ Oper.quiet _ (Oper.mk _ (.load _ _) _ _ _ _) _ _ _; (first | fail); clear hK K; simp only [Act.put, List.setIfInBounds_toArray, List.set_cons_succ, List.set_cons_zero]) | (go_big_quiet_op; (try refine ⟨_, fun _ _ => rfl, ?_⟩); refine hK _ ?_; clear hK K)) | (refine treeC_call (v := ?_) ⟨_, H, by repeat first | exact .here | apply Suf.there⟩ rfl rfl (fun w3 H K hK => ?_) ?_; rotate_left 1; (focus (simp only [List.getElem_toArray, List.getElem_cons_succ, List.getElem_cons_zero]; first | (go_big_op; first | exact hK _ (Ext.refl _)))); simp only [List.getElem_toArray, List.getElem_cons_succ, List.getElem_cons_zero, Act.put, List.setIfInBounds_toArray, List.set_cons_succ, List.set_cons_zero]) | (refine treeC_skip ⟨_, H, by repeat first | exact .here | apply Suf.there⟩ rfl rfl ?_; simp only [List.getElem_toArray, List.getElem_cons_succ, List.getElem_cons_zero, Act.put, List.setIfInBounds_toArray, List.set_cons_succ, List.set_cons_zero])) | (guard_target =~ wpTreeC _ _ _ (Tr.both _ _) _ _ _; refine treeC_both ?_ ?_) | (guard_target =~ wpTreeC _ _ _ (Tr.e _ _) _ _ _; first | (refine treeC_one H rfl rfl (fun w3 H2 K hK => ?_); clear H; (try clear w2); (revert w3; intro w2 H); simp only [List.getElem_toArray, List.getElem_cons_succ, List.getElem_cons_zero]; first | ((first | fail); simp only [Act.put, List.setIfInBounds_toArray, List.set_cons_succ, List.set_cons_zero]) | (go_big_op; (first | fail))) | (refine treeC_one_skip (fun w3 hx => ⟨_, H.ext hx, by repeat first | exact .here | apply Suf.there⟩) rfl rfl (fun w3 hx => ?_); replace H := H.ext hx; clear hx; (try clear w2); revert w3; intro w2 H; simp only [List.getElem_toArray, List.getElem_cons_succ, List.getElem_cons_zero, Act.put, List.setIfInBounds_toArray, List.set_cons_succ, List.set_cons_zero])) | (guard_target =~ wpTreeC _ _ _ Tr.nil _ _ _; refine treeC_nil H (fun w3 H2 => ?_); clear H; (try clear w2); revert w3; intro w2 H)))
                  go_roundg (gk - 1)
                  case rel =>
                    have e := show j - (gk - 1) = k + 1 by have := HKK.out; omega
                    exact ⟨by omega, by rw [e]; simp, by rw [e, HAS.out, ← Bool.and_assoc, HV3.out]; rfl, (H.sub (by repeat first | exact List.Sublist.refl _ | apply List.Sublist.cons_cons | apply List.Sublist.cons))⟩
                  case measure => omega
                · go_wp2_with (first
                    | (guard_target =~ Code.wp _ (Code.region 12 _ true) _ _ _; refine region_treeC0 12 (G := True) (.q 0 (.q 1 (.q 2 (.q 3 (.q 4 (.q 5 (.q 6 (.q 7 (.q 8 (.q 9 (.q 10 (.q 11 (.q 12 .nil))))))))))))) (by kernel_rfl) (by intro c a d v w h; cases d <;> first | exact h | exact hQ h) (by kernel_rfl) H ⟨trivial⟩ (fun _ w3 H2 => ?_); (clear H; (try clear w2); revert w3; intro w2 H))
                    | (guard_target =~ wpTreeC _ _ _ _ _ _ _; first | (guard_target =~ wpTreeC _ _ _ (Tr.e _ Tr.nil) _ _ _; refine treeC_last (by decide +kernel) H rfl rfl (fun w3 H2 K hK => ?_); clear H; (try clear w2); (revert w3; intro w2 H); simp only [List.getElem_toArray, List.getElem_cons_succ, List.getElem_cons_zero]; (first | fail); simp only [Act.put, List.setIfInBounds_toArray, List.set_cons_succ, List.set_cons_zero, hv4]) | (guard_target =~ wpTreeC _ _ _ (Tr.q _ _) _ _ _; first | (refine treeC_quiet ⟨_, H, by repeat first | exact .here | apply Suf.there⟩ rfl rfl rfl (fun K hK => ?_); simp only [List.getElem_toArray, List.getElem_cons_succ, List.getElem_cons_zero]; first | (guard_target =~ Oper.quiet _ (Oper.mk _ (.load _ _) _ _ _ _) _ _ _; (refine q_load (v := ?_) (r := ?_) rfl rfl ?_ ?_ ?_ (hK _ ?_); rotate_left 2; (with_reducible assumption); (repeat first | exact .head _ | apply List.Mem.tail); (focus (intro _; simp [hv4]; done))); clear hK K; simp only [Act.put, List.setIfInBounds_toArray, List.set_cons_succ, List.set_cons_zero, hv4]) | (go_big_quiet_op; (try refine ⟨_, fun _ _ => rfl, ?_⟩); refine hK _ ?_; clear hK K)) | (refine treeC_call (v := ?_) ⟨_, H, by repeat first | exact .here | apply Suf.there⟩ rfl rfl (fun w3 H K hK => ?_) ?_; rotate_left 1; (focus (simp only [List.getElem_toArray, List.getElem_cons_succ, List.getElem_cons_zero]; first | (go_big_op; first | exact hK _ (Ext.refl _)))); simp only [List.getElem_toArray, List.getElem_cons_succ, List.getElem_cons_zero, Act.put, List.setIfInBounds_toArray, List.set_cons_succ, List.set_cons_zero, hv4]) | (refine treeC_skip ⟨_, H, by repeat first | exact .here | apply Suf.there⟩ rfl rfl ?_; simp only [List.getElem_toArray, List.getElem_cons_succ, List.getElem_cons_zero, Act.put, List.setIfInBounds_toArray, List.set_cons_succ, List.set_cons_zero, hv4])) | (guard_target =~ wpTreeC _ _ _ (Tr.both _ _) _ _ _; refine treeC_both ?_ ?_) | (guard_target =~ wpTreeC _ _ _ (Tr.e _ _) _ _ _; first | (refine treeC_one H rfl rfl (fun w3 H2 K hK => ?_); clear H; (try clear w2); (revert w3; intro w2 H); simp only [List.getElem_toArray, List.getElem_cons_succ, List.getElem_cons_zero]; first | ((first | fail); simp only [Act.put, List.setIfInBounds_toArray, List.set_cons_succ, List.set_cons_zero, hv4]) | (go_big_op; (first | fail))) | (refine treeC_one_skip (fun w3 hx => ⟨_, H.ext hx, by repeat first | exact .here | apply Suf.there⟩) rfl rfl (fun w3 hx => ?_); replace H := H.ext hx; clear hx; (try clear w2); revert w3; intro w2 H; simp only [List.getElem_toArray, List.getElem_cons_succ, List.getElem_cons_zero, Act.put, List.setIfInBounds_toArray, List.set_cons_succ, List.set_cons_zero, hv4])) | (guard_target =~ wpTreeC _ _ _ Tr.nil _ _ _; refine treeC_nil H (fun w3 H2 => ?_); clear H; (try clear w2); revert w3; intro w2 H)))
                  go_roundg (gk - 1)
                  case rel =>
                    have e := show j - (gk - 1) = k + 1 by have := HKK.out; omega
                    exact ⟨by omega, by rw [e]; simp, by rw [e, HAS.out, ← Bool.and_assoc, HV3.out]; rfl, (H.sub (by repeat first | exact List.Sublist.refl _ | apply List.Sublist.cons_cons | apply List.Sublist.cons))⟩
                  case measure => omega
              · obtain rfl : gk = 0 := by omega
                go_wp2_with (first | fail)
                go_roundg (g1 - 1)
                case rel =>
                  have e := show q - (g1 - 1) = j + 1 by have := HJ.out; have := HG1.out; omega
                  exact ⟨by have := HG1.out; omega, by rw [e]; simp, by rw [e, HCS.out, Nat.sub_zero, ← HV2.out, ← HV.out]; simp [Bool.and_assoc], (H.sub (by repeat first | exact List.Sublist.refl _ | apply List.Sublist.cons_cons | apply List.Sublist.cons))⟩
                case measure => have := HG1.out; omega
        · obtain rfl : gk = 0 := by omega
          have hbo : (c0 && chkB es os (q - 0)) = true := by
            have hcb := chk_build vs es os
            rw [← HQ.out, ← HM.out] at hcb
            rw [Nat.sub_zero, ← HC0.out]
            exact hcb.trans HB.out
          rw [hbo]
          clear hbo
          have h9 := fun F w h => h7 F w h edge
          have hfe := find_ix es edge
          obtain ⟨o, ho⟩ : ∃ o, ixZ (es.findIdx? fun e => e.id == edge) = o := ⟨_, rfl⟩
          have haz := add_built HR.out HO.out HI.out edge
          obtain ⟨fd, hfd⟩ : ∃ o, (es.find? fun e => e.id == edge).isSome = o := ⟨_, rfl⟩
          rw [ho] at h9 hfe
          rw [hfd] at hfe haz
          have haz0 : addZ vs es X.S edge ≠ 0 := by rw [haz]; cases fd <;> decide
          have hSl : X.S.length ≤ 40 := by rw [HI.out.puts.S_, segs_len]; have := HO.out.1; have := HM.out; omega
          have hadd : ∀ {l : List Res} w4, Own w.heap.size w w4 (xL bx ks ke cn cp dn dp X l) → Sl (FW F0 (xL bx ks ke cn cp dn dp X l)) w4 A (vR vs) → Sl (FW F0 (xL bx ks ke cn cp dn dp X l)) w4 A2 (eR es) → Calls Try.prog 44 #[.pointer (some ⟨bx, 0, none⟩), .agg #[.slice A n c, .slice A2 m c2], .int .i64 edge] w4 fun e w' => e = .returned (.int .i64 (if fd then 7 else 6)) ∧ Own w.heap.size w w' (xL bx ks ke cn cp dn dp X l) := by
            intro l w4 H h1 h2
            refine (add_any vs es edge A A2 n m c c2 F0 HN.out HM.out HI.out.puts (fun h => absurd h haz0) hSl H h1 h2 (by omega) hl2 hc2 hcc).mono ?_
            rintro e w' ⟨rfl, h3, _⟩
            exact ⟨by rw [haz], h3 haz0⟩
          have HHF := Lib.hid hfd
          clear ho haz hfd
          cases es with
          | nil =>
            obtain rfl : false = fd := by rw [← HHF.out]; rfl
            obtain rfl : m = 0 := HM.out
            have tk0 : True := trivial
            go_wp2_with (first
              | (go_at_call 30; (with_reducible refine (h9 _ _ (by exact H.giveRd m9 f9)).mono ?_); rintro e w3 ⟨rfl, hb⟩; replace H := H.ext hb; clear hb; dsimp only; (skip))
              | (go_at_call 41; (with_reducible refine (hN1 _).mono ?_); rintro e w3 ⟨rfl, hb⟩; replace H := H.ext hb; clear hb; dsimp only; (skip))
              | (go_at_call 44; (with_reducible refine (hN2 _).mono ?_); rintro e w3 ⟨rfl, hb⟩; replace H := H.ext hb; clear hb; dsimp only; (skip))
              | (go_at_call 46; (with_reducible refine (xlenN_any _).mono ?_); rintro e w3 ⟨rfl, hb⟩; replace H := H.ext hb; clear hb; dsimp only; (skip))
              | (go_at_call 40; (with_reducible refine (tallN_any _).mono ?_); rintro e w3 ⟨rfl, hb⟩; replace H := H.ext hb; clear hb; dsimp only; (skip))
              | (go_at_call 38; (with_reducible refine (plain21_any _ _ _ _ _ _ _).mono ?_); rintro e w3 ⟨rfl, hb⟩; replace H := H.ext hb; clear hb; dsimp only; (skip))
              | (guard_target =~ Code.wp _ (Code.region 26 _ true) _ _ _; refine region_treeC0 26 (G := True) (.q 0 (.q 1 (.q 2 (.q 3 (.q 4 (.q 5 (.q 6 (.q 7 (.q 8 (.q 9 (.q 10 (.q 11 (.q 12 (.q 13 (.q 14 (.q 15 (.q 16 (.q 17 (.q 18 (.q 19 (.q 20 (.q 21 (.q 22 (.q 23 (.q 24 (.q 25 .nil)))))))))))))))))))))))))) (by kernel_rfl) (by intro c a d v w h; cases d <;> first | exact h | exact hQ h) (by kernel_rfl) H ⟨trivial⟩ (fun _ w3 H2 => ?_); (clear H; (try clear w2); revert w3; intro w2 H))
              | (go_at_call 44; (replace H:Own _ _ _ (mEnd _ _ :: _) := H.front5); (replace H:Own _ _ _ (mSeg _ _ :: _) := H.front5); (replace H:Own _ _ _ (Res.grow 121 _ _ _ _ :: _) := H.front5); (replace H:Own _ _ _ (Res.grow 127 _ _ _ _ :: _) := H.front5); (replace H:Own _ _ _ (Res.cells bx _ :: _) := H.front5); (with_reducible refine (hadd _ H (by exact H.giveRd m10 f0) (by exact H.giveRd m9 f9)).mono ?_); rintro e w3 ⟨rfl, H2⟩; replace H := H2; clear H2; dsimp only; (skip))
              | (guard_target =~ wpList _ _ _ (_ :: _) _ _; (first | (guard_target =~ wpList _ _ _ (Oper.mk _ (.load _ _) _ _ _ _ :: _) _ _; refine BigFrame.wpList_want rfl (fun K hK => ?_); (refine o_loadNC (row := ?_) rfl rfl H ?_ ?_ ?_ (hK _ _ ?_); rotate_left 1; (repeat first | exact .head _ | apply List.Mem.tail); (focus (intro _; simp [hfe]; done)); (focus (intro _; simp [hfe]; done))); clear hK K) | (guard_target =~ wpList _ _ _ (Oper.mk _ (.store _ _ _) _ _ _ _ :: _) _ _; refine BigFrame.wpList_want rfl (fun K hK => ?_); refine o_store (l' := ?_) (row := ?_) rfl rfl H rfl ?_ ?_ ?_ ?_ (fun w3 H2 => hK _ _ ?_); rotate_left 2; (exact r0); (focus (intro _; (simp [Act.eval, Value.cells, List.getD, hfe]; done))); (focus (simp [Act.eval, Value.cells, List.getD, hfe]; done)); (exact rfl); clear hK K; clear H; (try clear w2); revert w3; intro w2 H; (try simp [Act.eval, List.getD, hfe] at H); (try simp [Value.cells, setL, hfe] at H)) | ((guard_target =~ wpList _ _ _ (Oper.mk _ (.alloc _) _ _ _ _ :: _) _ _; refine BigFrame.wpList_want rfl (fun K hK => ?_); refine o_alloc (z := ?_) rfl ?_ H rfl (fun w3 b2 he H2 => hK _ _ ?_); rotate_left 1; (focus (intro _; simp; with_reducible exact rfl))); clear hK K he; clear H; (try clear w2); revert w3; intro w2 H; (try simp [Act.eval, List.getD, hfe] at H); (try simp [Value.cells, setL, hfe] at H); (clear tk0; rename Nat => b3))); simp only [Act.put, List.setIfInBounds_toArray, List.set_cons_succ, List.set_cons_zero, hfe])
              | (guard_target =~ wpTreeC _ _ _ _ _ _ _; first | (guard_target =~ wpTreeC _ _ _ (Tr.e _ Tr.nil) _ _ _; refine treeC_last (by decide +kernel) H rfl rfl (fun w3 H2 K hK => ?_); clear H; (try clear w2); (revert w3; intro w2 H); simp only [List.getElem_toArray, List.getElem_cons_succ, List.getElem_cons_zero]; (first | fail); simp only [Act.put, List.setIfInBounds_toArray, List.set_cons_succ, List.set_cons_zero, hfe]) | (guard_target =~ wpTreeC _ _ _ (Tr.q _ _) _ _ _; first | (refine treeC_quiet ⟨_, H, by repeat first | exact .here | apply Suf.there⟩ rfl rfl rfl (fun K hK => ?_); simp only [List.getElem_toArray, List.getElem_cons_succ, List.getElem_cons_zero]; first | (guard_target =~ Oper.quiet _ (Oper.mk _ (.load _ _) _ _ _ _) _ _ _; (refine q_loadC (v := ?_) (row := ?_) rfl rfl ?_ ?_ ?_ (hK _ ?_); rotate_left 2; (repeat first | exact .head _ | apply List.Mem.tail); (exact rfl); (focus (intro _; simp [hfe]; done))); clear hK K; simp only [Act.put, List.setIfInBounds_toArray, List.set_cons_succ, List.set_cons_zero, hfe]) | (go_big_quiet_op; (try refine ⟨_, fun _ _ => rfl, ?_⟩); refine hK _ ?_; clear hK K)) | (refine treeC_call (v := ?_) ⟨_, H, by repeat first | exact .here | apply Suf.there⟩ rfl rfl (fun w3 H K hK => ?_) ?_; rotate_left 1; (focus (simp only [List.getElem_toArray, List.getElem_cons_succ, List.getElem_cons_zero]; first | (go_big_op; first | exact hK _ (Ext.refl _) | (go_at_call 30; (with_reducible refine (h9 _ _ (by first | fail)).mono ?_); rintro e w3 ⟨rfl, hb⟩; dsimp only; first | exact hK _ hb | exact hK _ (Ext.refl _)) | (go_at_call 41; (with_reducible refine (hN1 _).mono ?_); rintro e w3 ⟨rfl, hb⟩; dsimp only; first | exact hK _ hb | exact hK _ (Ext.refl _)) | (go_at_call 44; (with_reducible refine (hN2 _).mono ?_); rintro e w3 ⟨rfl, hb⟩; dsimp only; first | exact hK _ hb | exact hK _ (Ext.refl _)) | (go_at_call 46; (with_reducible refine (xlenN_any _).mono ?_); rintro e w3 ⟨rfl, hb⟩; dsimp only; first | exact hK _ hb | exact hK _ (Ext.refl _)) | (go_at_call 40; (with_reducible refine (tallN_any _).mono ?_); rintro e w3 ⟨rfl, hb⟩; dsimp only; first | exact hK _ hb | exact hK _ (Ext.refl _)) | (go_at_call 38; (with_reducible refine (plain21_any _ _ _ _ _ _ _).mono ?_); rintro e w3 ⟨rfl, hb⟩; dsimp only; first | exact hK _ hb | exact hK _ (Ext.refl _)) | (go_at_call 44; (first | fail); (first | fail); (first | fail); (first | fail); (first | fail); (with_reducible refine (hadd _ H (by first | fail) (by first | fail)).mono ?_); rintro e w3 ⟨rfl, H2⟩; dsimp only; first | exact hK _ hb | exact hK _ (Ext.refl _))))); simp only [List.getElem_toArray, List.getElem_cons_succ, List.getElem_cons_zero, Act.put, List.setIfInBounds_toArray, List.set_cons_succ, List.set_cons_zero, hfe]) | (refine treeC_skip ⟨_, H, by repeat first | exact .here | apply Suf.there⟩ rfl rfl ?_; simp only [List.getElem_toArray, List.getElem_cons_succ, List.getElem_cons_zero, Act.put, List.setIfInBounds_toArray, List.set_cons_succ, List.set_cons_zero, hfe])) | (guard_target =~ wpTreeC _ _ _ (Tr.both _ _) _ _ _; refine treeC_both ?_ ?_) | (guard_target =~ wpTreeC _ _ _ (Tr.e _ _) _ _ _; first | (refine treeC_one H rfl rfl (fun w3 H2 K hK => ?_); clear H; (try clear w2); (revert w3; intro w2 H); simp only [List.getElem_toArray, List.getElem_cons_succ, List.getElem_cons_zero]; first | ((first | fail); simp only [Act.put, List.setIfInBounds_toArray, List.set_cons_succ, List.set_cons_zero, hfe]) | (go_big_op; (first | fail))) | (refine treeC_one_skip (fun w3 hx => ⟨_, H.ext hx, by repeat first | exact .here | apply Suf.there⟩) rfl rfl (fun w3 hx => ?_); replace H := H.ext hx; clear hx; (try clear w2); revert w3; intro w2 H; simp only [List.getElem_toArray, List.getElem_cons_succ, List.getElem_cons_zero, Act.put, List.setIfInBounds_toArray, List.set_cons_succ, List.set_cons_zero, hfe])) | (guard_target =~ wpTreeC _ _ _ Tr.nil _ _ _; refine treeC_nil H (fun w3 H2 => ?_); clear H; (try clear w2); revert w3; intro w2 H)))
            exact bodyPost_ret (v := .bool true) (by simp [results, Try.results11]) rfl ⟨rfl, H.below⟩
          | cons e0 es' =>
            obtain ⟨i0, x0, y0⟩ := e0
            have HM1 : Hid (m = es'.length + 1) := Lib.hid HM.out
            have hm2 : 0 < m := by have := HM1.out; omega
            obtain rfl := H.rdAddr (by exact m8) (show 0 < (eR (⟨i0, x0, y0⟩ :: es')).length by simp [eR])
            have hp0 : (Res.rd (some ⟨b9, o9, none⟩) b9 o9 (eR (⟨i0, x0, y0⟩ :: es'))).at b9 o9 [.int .i64 i0] := ⟨rfl, 0, rfl, rfl⟩
            obtain ⟨v5, hv5⟩ : ∃ v, (i0 == edge) = v := ⟨_, rfl⟩
            have hne : v5 = false → addZ vs es' X.S edge = 1 := fun h => add_tail HR.out HO.out HI.out (by rw [← h]; exact hv5)
            have hm0 : (((m : Nat) : Int) == 0) = false := by have := HM1.out; simp; omega
            cases v5
            · have hz1 := hne rfl
              have haddT : ∀ {l : List Res} w4, Own w.heap.size w w4 (xL bx ks ke cn cp dn dp X l) → Sl (FW F0 (xL bx ks ke cn cp dn dp X l)) w4 A (vR vs) → Sl (FW F0 (xL bx ks ke cn cp dn dp X l)) w4 (some ⟨b9, o9, none⟩) (eR (⟨i0, x0, y0⟩ :: es')) → Calls Try.prog 44 #[.pointer (some ⟨bx, 0, none⟩), .agg #[.slice A n c, .slice (some ⟨b9, o9 + 3, none⟩) (m - 1) (c2 - 1)], .int .i64 edge] w4 fun e w' => e = .returned (.int .i64 1) ∧ Own w.heap.size w w' (xL bx ks ke cn cp dn dp X l) := by
                intro l w4 H h1 h2
                have h3 := Sl.drop_ h2 3
                refine (add_any vs es' edge A (some ⟨b9, o9 + 3, none⟩) n (m - 1) c (c2 - 1) F0 HN.out (by have := HM1.out; omega) HI.out.puts (fun h => absurd (h.symm.trans hz1) (by decide)) hSl H h1 h3 (by omega) (by omega) (by omega) (by omega)).mono ?_
                rintro e w' ⟨rfl, h4, _⟩
                rw [hz1] at h4 ⊢
                exact ⟨rfl, h4 (by decide)⟩
              have haddU : m ≤ 1 → ∀ {l : List Res} w4, Own w.heap.size w w4 (xL bx ks ke cn cp dn dp X l) → Sl (FW F0 (xL bx ks ke cn cp dn dp X l)) w4 A (vR vs) → Calls Try.prog 44 #[.pointer (some ⟨bx, 0, none⟩), .agg #[.slice A n c, .slice (some ⟨b9, o9, none⟩) (m - 1) 0], .int .i64 edge] w4 fun e w' => e = .returned (.int .i64 1) ∧ Own w.heap.size w w' (xL bx ks ke cn cp dn dp X l) := by
                intro hle l w4 H9 h1
                have h0 : es' = [] := List.length_eq_zero_iff.1 (by have := HM1.out; omega)
                subst h0
                refine (add_any vs [] edge A (some ⟨b9, o9, none⟩) n (m - 1) c 0 F0 HN.out (by have := HM1.out; simp at this ⊢; omega) HI.out.puts (fun h => absurd (h.symm.trans hz1) (by decide)) hSl H9 h1 (Sl.nil_ _ _ _) (by omega) (by omega) (by omega) (by omega)).mono ?_
                rintro e w' ⟨rfl, h4, _⟩
                rw [hz1] at h4 ⊢
                exact ⟨rfl, h4 (by decide)⟩
              cases fd
              · have tk0 : True := trivial
                go_wp2_with (first
                  | (go_at_call 30; (with_reducible refine (h9 _ _ (by exact H.giveRd m9 f9)).mono ?_); rintro e w3 ⟨rfl, hb⟩; replace H := H.ext hb; clear hb; dsimp only; (skip))
                  | (guard_target =~ Code.wp _ (Code.region 26 _ true) _ _ _; (replace H:Own _ _ _ (Res.cells bx _ :: _) := H); refine region_treeC0 26 (G := True) (.q 0 (.q 1 (.q 2 (.q 3 (.q 4 (.q 5 (.q 6 (.q 7 (.q 8 (.q 9 (.q 10 (.q 11 (.q 12 (.q 13 (.q 14 (.q 15 (.q 16 (.q 17 (.q 18 (.q 19 (.q 20 (.q 21 (.e 22 (.q 23 (.q 24 (.q 25 .nil)))))))))))))))))))))))))) (by kernel_rfl) (by intro c a d v w h; cases d <;> first | exact h | exact hQ h) (by kernel_rfl) H ⟨trivial⟩ (fun _ w3 H2 => ?_); (clear H; (try clear w2); revert w3; intro w2 H))
                  | (go_at_call 41; (with_reducible refine (hN1 _).mono ?_); rintro e w3 ⟨rfl, hb⟩; replace H := H.ext hb; clear hb; dsimp only; (skip))
                  | (go_at_call 44; (with_reducible refine (hN2 _).mono ?_); rintro e w3 ⟨rfl, hb⟩; replace H := H.ext hb; clear hb; dsimp only; (skip))
                  | (go_at_call 46; (with_reducible refine (xlenN_any _).mono ?_); rintro e w3 ⟨rfl, hb⟩; replace H := H.ext hb; clear hb; dsimp only; (skip))
                  | (go_at_call 40; (with_reducible refine (tallN_any _).mono ?_); rintro e w3 ⟨rfl, hb⟩; replace H := H.ext hb; clear hb; dsimp only; (skip))
                  | (go_at_call 38; (with_reducible refine (plain21_any _ _ _ _ _ _ _).mono ?_); rintro e w3 ⟨rfl, hb⟩; replace H := H.ext hb; clear hb; dsimp only; (skip))
                  | (go_at_call 44; (first | replace H:Own _ _ _ (mEnd _ _ :: _) := H.front4 | replace H:Own _ _ _ (mEnd _ _ :: _) := H.front5); (first | replace H:Own _ _ _ (mSeg _ _ :: _) := H.front4 | replace H:Own _ _ _ (mSeg _ _ :: _) := H.front5); (first | replace H:Own _ _ _ (Res.grow 121 _ _ _ _ :: _) := H.front4 | replace H:Own _ _ _ (Res.grow 121 _ _ _ _ :: _) := H.front5); (first | replace H:Own _ _ _ (Res.grow 127 _ _ _ _ :: _) := H.front4 | replace H:Own _ _ _ (Res.grow 127 _ _ _ _ :: _) := H.front5); (first | replace H:Own _ _ _ (Res.cells bx _ :: _) := H.front4 | replace H:Own _ _ _ (Res.cells bx _ :: _) := H.front5); (with_reducible refine (hadd _ H (by exact H.giveRd m10 f0) (by exact H.giveRd m9 f9)).mono ?_); rintro e w3 ⟨rfl, H2⟩; replace H := H2; clear H2; dsimp only; (skip))
                  | (go_at_call 44; (with_reducible refine (haddU (by omega) _ H (by exact H.giveRd m10 f0)).mono ?_); rintro e w3 ⟨rfl, H2⟩; replace H := H2; clear H2; dsimp only; (refine hK _ _ ⟨_, H, by repeat first | exact .here | apply Suf.there⟩ ?_; clear hK K; (try simp only [Act.put, List.setIfInBounds_toArray, List.set_cons_succ, List.set_cons_zero, hfe, hm0, hv5])))
                  | (go_at_call 44; (with_reducible refine (haddT _ H (by exact H.giveRd m10 f0) (by exact H.giveRd m9 f9)).mono ?_); rintro e w3 ⟨rfl, H2⟩; replace H := H2; clear H2; dsimp only; (refine hK _ _ ⟨_, H, by repeat first | exact .here | apply Suf.there⟩ ?_; clear hK K; (try simp only [Act.put, List.setIfInBounds_toArray, List.set_cons_succ, List.set_cons_zero, hfe, hm0, hv5])))
                  | (guard_target =~ wpList _ _ _ (_ :: _) _ _; (first | (guard_target =~ wpList _ _ _ (Oper.mk _ (.load _ _) _ _ _ _ :: _) _ _; refine BigFrame.wpList_want rfl (fun K hK => ?_); (refine o_loadNC (row := ?_) rfl rfl H ?_ ?_ ?_ (hK _ _ ?_); rotate_left 1; (repeat first | exact .head _ | apply List.Mem.tail); (focus (intro _; simp [hfe, hm0, hv5]; done)); (focus (intro _; simp [hfe, hm0, hv5]; done))); clear hK K) | (guard_target =~ wpList _ _ _ (Oper.mk _ (.store _ _ _) _ _ _ _ :: _) _ _; refine BigFrame.wpList_want rfl (fun K hK => ?_); refine o_store (l' := ?_) (row := ?_) rfl rfl H rfl ?_ ?_ ?_ ?_ (fun w3 H2 => hK _ _ ?_); rotate_left 2; (exact r0); (focus (intro _; (simp [Act.eval, Value.cells, List.getD, hfe, hm0, hv5]; done))); (focus (simp [Act.eval, Value.cells, List.getD, hfe, hm0, hv5]; done)); (exact rfl); clear hK K; clear H; (try clear w2); revert w3; intro w2 H; (try simp [Act.eval, List.getD, hfe, hm0, hv5] at H); (try simp [Value.cells, setL, hfe, hm0, hv5] at H)) | ((guard_target =~ wpList _ _ _ (Oper.mk _ (.alloc _) _ _ _ _ :: _) _ _; refine BigFrame.wpList_want rfl (fun K hK => ?_); refine o_alloc (z := ?_) rfl ?_ H rfl (fun w3 b2 he H2 => hK _ _ ?_); rotate_left 1; (focus (intro _; simp; with_reducible exact rfl))); clear hK K he; clear H; (try clear w2); revert w3; intro w2 H; (try simp [Act.eval, List.getD, hfe, hm0, hv5] at H); (try simp [Value.cells, setL, hfe, hm0, hv5] at H); (clear tk0; rename Nat => b3))); simp only [Act.put, List.setIfInBounds_toArray, List.set_cons_succ, List.set_cons_zero, hfe, hm0, hv5])
                  | (guard_target =~ wpTreeC _ _ _ _ _ _ _; first | (guard_target =~ wpTreeC _ _ _ (Tr.e _ Tr.nil) _ _ _; refine treeC_last (by decide +kernel) H rfl rfl (fun w3 H2 K hK => ?_); clear H; (try clear w2); (revert w3; intro w2 H); simp only [List.getElem_toArray, List.getElem_cons_succ, List.getElem_cons_zero]; (first | fail); simp only [Act.put, List.setIfInBounds_toArray, List.set_cons_succ, List.set_cons_zero, hfe, hm0, hv5]) | (guard_target =~ wpTreeC _ _ _ (Tr.q _ _) _ _ _; first | (refine treeC_quiet ⟨_, H, by repeat first | exact .here | apply Suf.there⟩ rfl rfl rfl (fun K hK => ?_); simp only [List.getElem_toArray, List.getElem_cons_succ, List.getElem_cons_zero]; first | (guard_target =~ Oper.quiet _ (Oper.mk _ (.load _ _) _ _ _ _) _ _ _; (first | (refine q_load (v := ?_) (r := ?_) rfl rfl ?_ ?_ ?_ (hK _ ?_); rotate_left 2; (with_reducible assumption); (repeat first | exact .head _ | apply List.Mem.tail); (focus (intro _; simp [hfe, hm0, hv5]; done))) | (refine q_loadC (v := ?_) (row := ?_) rfl rfl ?_ ?_ ?_ (hK _ ?_); rotate_left 2; (repeat first | exact .head _ | apply List.Mem.tail); (exact rfl); (focus (intro _; simp [hfe, hm0, hv5]; done)))); clear hK K; simp only [Act.put, List.setIfInBounds_toArray, List.set_cons_succ, List.set_cons_zero, hfe, hm0, hv5]) | (go_big_quiet_op; (try refine ⟨_, fun _ _ => rfl, ?_⟩); refine hK _ ?_; clear hK K)) | (refine treeC_call (v := ?_) ⟨_, H, by repeat first | exact .here | apply Suf.there⟩ rfl rfl (fun w3 H K hK => ?_) ?_; rotate_left 1; (focus (simp only [List.getElem_toArray, List.getElem_cons_succ, List.getElem_cons_zero]; first | (go_big_op; first | exact hK _ (Ext.refl _) | (go_at_call 30; (with_reducible refine (h9 _ _ (by first | fail)).mono ?_); rintro e w3 ⟨rfl, hb⟩; dsimp only; first | exact hK _ hb | exact hK _ (Ext.refl _)) | (go_at_call 41; (with_reducible refine (hN1 _).mono ?_); rintro e w3 ⟨rfl, hb⟩; dsimp only; first | exact hK _ hb | exact hK _ (Ext.refl _)) | (go_at_call 44; (with_reducible refine (hN2 _).mono ?_); rintro e w3 ⟨rfl, hb⟩; dsimp only; first | exact hK _ hb | exact hK _ (Ext.refl _)) | (go_at_call 46; (with_reducible refine (xlenN_any _).mono ?_); rintro e w3 ⟨rfl, hb⟩; dsimp only; first | exact hK _ hb | exact hK _ (Ext.refl _)) | (go_at_call 40; (with_reducible refine (tallN_any _).mono ?_); rintro e w3 ⟨rfl, hb⟩; dsimp only; first | exact hK _ hb | exact hK _ (Ext.refl _)) | (go_at_call 38; (with_reducible refine (plain21_any _ _ _ _ _ _ _).mono ?_); rintro e w3 ⟨rfl, hb⟩; dsimp only; first | exact hK _ hb | exact hK _ (Ext.refl _)) | (go_at_call 44; (first | fail); (first | fail); (first | fail); (first | fail); (first | fail); (with_reducible refine (hadd _ H (by first | fail) (by first | fail)).mono ?_); rintro e w3 ⟨rfl, H2⟩; dsimp only; first | exact hK _ hb | exact hK _ (Ext.refl _)) | (go_at_call 44; (with_reducible refine (haddU (by omega) _ H (by first | fail)).mono ?_); rintro e w3 ⟨rfl, H2⟩; dsimp only; first | exact hK _ hb | exact hK _ (Ext.refl _)) | (go_at_call 44; (with_reducible refine (haddT _ H (by first | fail) (by first | fail)).mono ?_); rintro e w3 ⟨rfl, H2⟩; dsimp only; first | exact hK _ hb | exact hK _ (Ext.refl _))))); simp only [List.getElem_toArray, List.getElem_cons_succ, List.getElem_cons_zero, Act.put, List.setIfInBounds_toArray, List.set_cons_succ, List.set_cons_zero, hfe, hm0, hv5]) | (refine treeC_skip ⟨_, H, by repeat first | exact .here | apply Suf.there⟩ rfl rfl ?_; simp only [List.getElem_toArray, List.getElem_cons_succ, List.getElem_cons_zero, Act.put, List.setIfInBounds_toArray, List.set_cons_succ, List.set_cons_zero, hfe, hm0, hv5])) | (guard_target =~ wpTreeC _ _ _ (Tr.both _ _) _ _ _; refine treeC_both ?_ ?_) | (guard_target =~ wpTreeC _ _ _ (Tr.e _ _) _ _ _; first | (refine treeC_one H rfl rfl (fun w3 H2 K hK => ?_); clear H; (try clear w2); (revert w3; intro w2 H); simp only [List.getElem_toArray, List.getElem_cons_succ, List.getElem_cons_zero]; first | ((first | fail); simp only [Act.put, List.setIfInBounds_toArray, List.set_cons_succ, List.set_cons_zero, hfe, hm0, hv5]) | (go_big_op; (skip))) | (refine treeC_one_skip (fun w3 hx => ⟨_, H.ext hx, by repeat first | exact .here | apply Suf.there⟩) rfl rfl (fun w3 hx => ?_); replace H := H.ext hx; clear hx; (try clear w2); revert w3; intro w2 H; simp only [List.getElem_toArray, List.getElem_cons_succ, List.getElem_cons_zero, Act.put, List.setIfInBounds_toArray, List.set_cons_succ, List.set_cons_zero, hfe, hm0, hv5])) | (guard_target =~ wpTreeC _ _ _ Tr.nil _ _ _; refine treeC_nil H (fun w3 H2 => ?_); clear H; (try clear w2); revert w3; intro w2 H)))
                all_goals
                  exact bodyPost_ret (v := .bool true) (by simp [results, Try.results11]) rfl ⟨rfl, H.below⟩
              · have tk0 : True := trivial
                go_wp2_with (first
                  | (go_at_call 30; (with_reducible refine (h9 _ _ (by exact H.giveRd m9 f9)).mono ?_); rintro e w3 ⟨rfl, hb⟩; replace H := H.ext hb; clear hb; dsimp only; (skip))
                  | (guard_target =~ Code.wp _ (Code.region 26 _ true) _ _ _; (replace H:Own _ _ _ (Res.cells bx _ :: _) := H); refine region_treeC0 26 (G := True) (.q 0 (.q 1 (.q 2 (.q 3 (.q 4 (.q 5 (.q 6 (.q 7 (.q 8 (.q 9 (.q 10 (.q 11 (.q 12 (.q 13 (.q 14 (.q 15 (.q 16 (.q 17 (.q 18 (.q 19 (.q 20 (.q 21 (.e 22 (.q 23 (.q 24 (.q 25 .nil)))))))))))))))))))))))))) (by kernel_rfl) (by intro c a d v w h; cases d <;> first | exact h | exact hQ h) (by kernel_rfl) H ⟨trivial⟩ (fun _ w3 H2 => ?_); (clear H; (try clear w2); revert w3; intro w2 H))
                  | (go_at_call 41; (with_reducible refine (hN1 _).mono ?_); rintro e w3 ⟨rfl, hb⟩; replace H := H.ext hb; clear hb; dsimp only; (skip))
                  | (go_at_call 44; (with_reducible refine (hN2 _).mono ?_); rintro e w3 ⟨rfl, hb⟩; replace H := H.ext hb; clear hb; dsimp only; (skip))
                  | (go_at_call 46; (with_reducible refine (xlenN_any _).mono ?_); rintro e w3 ⟨rfl, hb⟩; replace H := H.ext hb; clear hb; dsimp only; (skip))
                  | (go_at_call 40; (with_reducible refine (tallN_any _).mono ?_); rintro e w3 ⟨rfl, hb⟩; replace H := H.ext hb; clear hb; dsimp only; (skip))
                  | (go_at_call 38; (with_reducible refine (plain21_any _ _ _ _ _ _ _).mono ?_); rintro e w3 ⟨rfl, hb⟩; replace H := H.ext hb; clear hb; dsimp only; (skip))
                  | (go_at_call 44; (first | replace H:Own _ _ _ (mEnd _ _ :: _) := H.front4 | replace H:Own _ _ _ (mEnd _ _ :: _) := H.front5); (first | replace H:Own _ _ _ (mSeg _ _ :: _) := H.front4 | replace H:Own _ _ _ (mSeg _ _ :: _) := H.front5); (first | replace H:Own _ _ _ (Res.grow 121 _ _ _ _ :: _) := H.front4 | replace H:Own _ _ _ (Res.grow 121 _ _ _ _ :: _) := H.front5); (first | replace H:Own _ _ _ (Res.grow 127 _ _ _ _ :: _) := H.front4 | replace H:Own _ _ _ (Res.grow 127 _ _ _ _ :: _) := H.front5); (first | replace H:Own _ _ _ (Res.cells bx _ :: _) := H.front4 | replace H:Own _ _ _ (Res.cells bx _ :: _) := H.front5); (with_reducible refine (hadd _ H (by exact H.giveRd m10 f0) (by exact H.giveRd m9 f9)).mono ?_); rintro e w3 ⟨rfl, H2⟩; replace H := H2; clear H2; dsimp only; (skip))
                  | (go_at_call 44; (with_reducible refine (haddU (by omega) _ H (by exact H.giveRd m10 f0)).mono ?_); rintro e w3 ⟨rfl, H2⟩; replace H := H2; clear H2; dsimp only; (refine hK _ _ ⟨_, H, by repeat first | exact .here | apply Suf.there⟩ ?_; clear hK K; (try simp only [Act.put, List.setIfInBounds_toArray, List.set_cons_succ, List.set_cons_zero, hfe, hm0, hv5])))
                  | (go_at_call 44; (with_reducible refine (haddT _ H (by exact H.giveRd m10 f0) (by exact H.giveRd m9 f9)).mono ?_); rintro e w3 ⟨rfl, H2⟩; replace H := H2; clear H2; dsimp only; (refine hK _ _ ⟨_, H, by repeat first | exact .here | apply Suf.there⟩ ?_; clear hK K; (try simp only [Act.put, List.setIfInBounds_toArray, List.set_cons_succ, List.set_cons_zero, hfe, hm0, hv5])))
                  | (guard_target =~ wpList _ _ _ (_ :: _) _ _; (first | (guard_target =~ wpList _ _ _ (Oper.mk _ (.load _ _) _ _ _ _ :: _) _ _; refine BigFrame.wpList_want rfl (fun K hK => ?_); (refine o_loadNC (row := ?_) rfl rfl H ?_ ?_ ?_ (hK _ _ ?_); rotate_left 1; (repeat first | exact .head _ | apply List.Mem.tail); (focus (intro _; simp [hfe, hm0, hv5]; done)); (focus (intro _; simp [hfe, hm0, hv5]; done))); clear hK K) | (guard_target =~ wpList _ _ _ (Oper.mk _ (.store _ _ _) _ _ _ _ :: _) _ _; refine BigFrame.wpList_want rfl (fun K hK => ?_); refine o_store (l' := ?_) (row := ?_) rfl rfl H rfl ?_ ?_ ?_ ?_ (fun w3 H2 => hK _ _ ?_); rotate_left 2; (exact r0); (focus (intro _; (simp [Act.eval, Value.cells, List.getD, hfe, hm0, hv5]; done))); (focus (simp [Act.eval, Value.cells, List.getD, hfe, hm0, hv5]; done)); (exact rfl); clear hK K; clear H; (try clear w2); revert w3; intro w2 H; (try simp [Act.eval, List.getD, hfe, hm0, hv5] at H); (try simp [Value.cells, setL, hfe, hm0, hv5] at H)) | ((guard_target =~ wpList _ _ _ (Oper.mk _ (.alloc _) _ _ _ _ :: _) _ _; refine BigFrame.wpList_want rfl (fun K hK => ?_); refine o_alloc (z := ?_) rfl ?_ H rfl (fun w3 b2 he H2 => hK _ _ ?_); rotate_left 1; (focus (intro _; simp; with_reducible exact rfl))); clear hK K he; clear H; (try clear w2); revert w3; intro w2 H; (try simp [Act.eval, List.getD, hfe, hm0, hv5] at H); (try simp [Value.cells, setL, hfe, hm0, hv5] at H); (clear tk0; rename Nat => b3))); simp only [Act.put, List.setIfInBounds_toArray, List.set_cons_succ, List.set_cons_zero, hfe, hm0, hv5])
                  | (guard_target =~ wpTreeC _ _ _ _ _ _ _; first | (guard_target =~ wpTreeC _ _ _ (Tr.e _ Tr.nil) _ _ _; refine treeC_last (by decide +kernel) H rfl rfl (fun w3 H2 K hK => ?_); clear H; (try clear w2); (revert w3; intro w2 H); simp only [List.getElem_toArray, List.getElem_cons_succ, List.getElem_cons_zero]; (first | fail); simp only [Act.put, List.setIfInBounds_toArray, List.set_cons_succ, List.set_cons_zero, hfe, hm0, hv5]) | (guard_target =~ wpTreeC _ _ _ (Tr.q _ _) _ _ _; first | (refine treeC_quiet ⟨_, H, by repeat first | exact .here | apply Suf.there⟩ rfl rfl rfl (fun K hK => ?_); simp only [List.getElem_toArray, List.getElem_cons_succ, List.getElem_cons_zero]; first | (guard_target =~ Oper.quiet _ (Oper.mk _ (.load _ _) _ _ _ _) _ _ _; (first | (refine q_load (v := ?_) (r := ?_) rfl rfl ?_ ?_ ?_ (hK _ ?_); rotate_left 2; (with_reducible assumption); (repeat first | exact .head _ | apply List.Mem.tail); (focus (intro _; simp [hfe, hm0, hv5]; done))) | (refine q_loadC (v := ?_) (row := ?_) rfl rfl ?_ ?_ ?_ (hK _ ?_); rotate_left 2; (repeat first | exact .head _ | apply List.Mem.tail); (exact rfl); (focus (intro _; simp [hfe, hm0, hv5]; done)))); clear hK K; simp only [Act.put, List.setIfInBounds_toArray, List.set_cons_succ, List.set_cons_zero, hfe, hm0, hv5]) | (go_big_quiet_op; (try refine ⟨_, fun _ _ => rfl, ?_⟩); refine hK _ ?_; clear hK K)) | (refine treeC_call (v := ?_) ⟨_, H, by repeat first | exact .here | apply Suf.there⟩ rfl rfl (fun w3 H K hK => ?_) ?_; rotate_left 1; (focus (simp only [List.getElem_toArray, List.getElem_cons_succ, List.getElem_cons_zero]; first | (go_big_op; first | exact hK _ (Ext.refl _) | (go_at_call 30; (with_reducible refine (h9 _ _ (by first | fail)).mono ?_); rintro e w3 ⟨rfl, hb⟩; dsimp only; first | exact hK _ hb | exact hK _ (Ext.refl _)) | (go_at_call 41; (with_reducible refine (hN1 _).mono ?_); rintro e w3 ⟨rfl, hb⟩; dsimp only; first | exact hK _ hb | exact hK _ (Ext.refl _)) | (go_at_call 44; (with_reducible refine (hN2 _).mono ?_); rintro e w3 ⟨rfl, hb⟩; dsimp only; first | exact hK _ hb | exact hK _ (Ext.refl _)) | (go_at_call 46; (with_reducible refine (xlenN_any _).mono ?_); rintro e w3 ⟨rfl, hb⟩; dsimp only; first | exact hK _ hb | exact hK _ (Ext.refl _)) | (go_at_call 40; (with_reducible refine (tallN_any _).mono ?_); rintro e w3 ⟨rfl, hb⟩; dsimp only; first | exact hK _ hb | exact hK _ (Ext.refl _)) | (go_at_call 38; (with_reducible refine (plain21_any _ _ _ _ _ _ _).mono ?_); rintro e w3 ⟨rfl, hb⟩; dsimp only; first | exact hK _ hb | exact hK _ (Ext.refl _)) | (go_at_call 44; (first | fail); (first | fail); (first | fail); (first | fail); (first | fail); (with_reducible refine (hadd _ H (by first | fail) (by first | fail)).mono ?_); rintro e w3 ⟨rfl, H2⟩; dsimp only; first | exact hK _ hb | exact hK _ (Ext.refl _)) | (go_at_call 44; (with_reducible refine (haddU (by omega) _ H (by first | fail)).mono ?_); rintro e w3 ⟨rfl, H2⟩; dsimp only; first | exact hK _ hb | exact hK _ (Ext.refl _)) | (go_at_call 44; (with_reducible refine (haddT _ H (by first | fail) (by first | fail)).mono ?_); rintro e w3 ⟨rfl, H2⟩; dsimp only; first | exact hK _ hb | exact hK _ (Ext.refl _))))); simp only [List.getElem_toArray, List.getElem_cons_succ, List.getElem_cons_zero, Act.put, List.setIfInBounds_toArray, List.set_cons_succ, List.set_cons_zero, hfe, hm0, hv5]) | (refine treeC_skip ⟨_, H, by repeat first | exact .here | apply Suf.there⟩ rfl rfl ?_; simp only [List.getElem_toArray, List.getElem_cons_succ, List.getElem_cons_zero, Act.put, List.setIfInBounds_toArray, List.set_cons_succ, List.set_cons_zero, hfe, hm0, hv5])) | (guard_target =~ wpTreeC _ _ _ (Tr.both _ _) _ _ _; refine treeC_both ?_ ?_) | (guard_target =~ wpTreeC _ _ _ (Tr.e _ _) _ _ _; first | (refine treeC_one H rfl rfl (fun w3 H2 K hK => ?_); clear H; (try clear w2); (revert w3; intro w2 H); simp only [List.getElem_toArray, List.getElem_cons_succ, List.getElem_cons_zero]; first | ((first | fail); simp only [Act.put, List.setIfInBounds_toArray, List.set_cons_succ, List.set_cons_zero, hfe, hm0, hv5]) | (go_big_op; (skip))) | (refine treeC_one_skip (fun w3 hx => ⟨_, H.ext hx, by repeat first | exact .here | apply Suf.there⟩) rfl rfl (fun w3 hx => ?_); replace H := H.ext hx; clear hx; (try clear w2); revert w3; intro w2 H; simp only [List.getElem_toArray, List.getElem_cons_succ, List.getElem_cons_zero, Act.put, List.setIfInBounds_toArray, List.set_cons_succ, List.set_cons_zero, hfe, hm0, hv5])) | (guard_target =~ wpTreeC _ _ _ Tr.nil _ _ _; refine treeC_nil H (fun w3 H2 => ?_); clear H; (try clear w2); revert w3; intro w2 H)))
                all_goals
                  exact bodyPost_ret (v := .bool true) (by simp [results, Try.results11]) rfl ⟨rfl, H.below⟩
            · cases fd
              · have tk0 : True := trivial
                go_wp2_with (first
                  | (go_at_call 30; (with_reducible refine (h9 _ _ (by exact H.giveRd m9 f9)).mono ?_); rintro e w3 ⟨rfl, hb⟩; replace H := H.ext hb; clear hb; dsimp only; (skip))
                  | (guard_target =~ Code.wp _ (Code.region 26 _ true) _ _ _; (replace H:Own _ _ _ (Res.cells bx _ :: _) := H); refine region_treeC0 26 (G := True) (.q 0 (.q 1 (.q 2 (.q 3 (.q 4 (.q 5 (.q 6 (.q 7 (.q 8 (.q 9 (.q 10 (.q 11 (.q 12 (.q 13 (.q 14 (.q 15 (.q 16 (.q 17 (.q 18 (.q 19 (.q 20 (.q 21 (.e 22 (.q 23 (.q 24 (.q 25 .nil)))))))))))))))))))))))))) (by kernel_rfl) (by intro c a d v w h; cases d <;> first | exact h | exact hQ h) (by kernel_rfl) H ⟨trivial⟩ (fun _ w3 H2 => ?_); (clear H; (try clear w2); revert w3; intro w2 H))
                  | (go_at_call 41; (with_reducible refine (hN1 _).mono ?_); rintro e w3 ⟨rfl, hb⟩; replace H := H.ext hb; clear hb; dsimp only; (skip))
                  | (go_at_call 44; (with_reducible refine (hN2 _).mono ?_); rintro e w3 ⟨rfl, hb⟩; replace H := H.ext hb; clear hb; dsimp only; (skip))
                  | (go_at_call 46; (with_reducible refine (xlenN_any _).mono ?_); rintro e w3 ⟨rfl, hb⟩; replace H := H.ext hb; clear hb; dsimp only; (skip))
                  | (go_at_call 40; (with_reducible refine (tallN_any _).mono ?_); rintro e w3 ⟨rfl, hb⟩; replace H := H.ext hb; clear hb; dsimp only; (skip))
                  | (go_at_call 38; (with_reducible refine (plain21_any _ _ _ _ _ _ _).mono ?_); rintro e w3 ⟨rfl, hb⟩; replace H := H.ext hb; clear hb; dsimp only; (skip))
                  | (go_at_call 44; (replace H:Own _ _ _ (mEnd _ _ :: _) := H.front5); (replace H:Own _ _ _ (mSeg _ _ :: _) := H.front5); (replace H:Own _ _ _ (Res.grow 121 _ _ _ _ :: _) := H.front5); (replace H:Own _ _ _ (Res.grow 127 _ _ _ _ :: _) := H.front5); (replace H:Own _ _ _ (Res.cells bx _ :: _) := H.front5); (with_reducible refine (hadd _ H (by exact H.giveRd m10 f0) (by exact H.giveRd m9 f9)).mono ?_); rintro e w3 ⟨rfl, H2⟩; replace H := H2; clear H2; dsimp only; (skip))
                  | (guard_target =~ wpList _ _ _ (_ :: _) _ _; (first | (guard_target =~ wpList _ _ _ (Oper.mk _ (.load _ _) _ _ _ _ :: _) _ _; refine BigFrame.wpList_want rfl (fun K hK => ?_); (refine o_loadNC (row := ?_) rfl rfl H ?_ ?_ ?_ (hK _ _ ?_); rotate_left 1; (repeat first | exact .head _ | apply List.Mem.tail); (focus (intro _; simp [hfe, hm0, hv5]; done)); (focus (intro _; simp [hfe, hm0, hv5]; done))); clear hK K) | (guard_target =~ wpList _ _ _ (Oper.mk _ (.store _ _ _) _ _ _ _ :: _) _ _; refine BigFrame.wpList_want rfl (fun K hK => ?_); refine o_store (l' := ?_) (row := ?_) rfl rfl H rfl ?_ ?_ ?_ ?_ (fun w3 H2 => hK _ _ ?_); rotate_left 2; (exact r0); (focus (intro _; (simp [Act.eval, Value.cells, List.getD, hfe, hm0, hv5]; done))); (focus (simp [Act.eval, Value.cells, List.getD, hfe, hm0, hv5]; done)); (exact rfl); clear hK K; clear H; (try clear w2); revert w3; intro w2 H; (try simp [Act.eval, List.getD, hfe, hm0, hv5] at H); (try simp [Value.cells, setL, hfe, hm0, hv5] at H)) | ((guard_target =~ wpList _ _ _ (Oper.mk _ (.alloc _) _ _ _ _ :: _) _ _; refine BigFrame.wpList_want rfl (fun K hK => ?_); refine o_alloc (z := ?_) rfl ?_ H rfl (fun w3 b2 he H2 => hK _ _ ?_); rotate_left 1; (focus (intro _; simp; with_reducible exact rfl))); clear hK K he; clear H; (try clear w2); revert w3; intro w2 H; (try simp [Act.eval, List.getD, hfe, hm0, hv5] at H); (try simp [Value.cells, setL, hfe, hm0, hv5] at H); (clear tk0; rename Nat => b3))); simp only [Act.put, List.setIfInBounds_toArray, List.set_cons_succ, List.set_cons_zero, hfe, hm0, hv5])
                  | (guard_target =~ wpTreeC _ _ _ _ _ _ _; first | (guard_target =~ wpTreeC _ _ _ (Tr.e _ Tr.nil) _ _ _; refine treeC_last (by decide +kernel) H rfl rfl (fun w3 H2 K hK => ?_); clear H; (try clear w2); (revert w3; intro w2 H); simp only [List.getElem_toArray, List.getElem_cons_succ, List.getElem_cons_zero]; (first | fail); simp only [Act.put, List.setIfInBounds_toArray, List.set_cons_succ, List.set_cons_zero, hfe, hm0, hv5]) | (guard_target =~ wpTreeC _ _ _ (Tr.q _ _) _ _ _; first | (refine treeC_quiet ⟨_, H, by repeat first | exact .here | apply Suf.there⟩ rfl rfl rfl (fun K hK => ?_); simp only [List.getElem_toArray, List.getElem_cons_succ, List.getElem_cons_zero]; first | (guard_target =~ Oper.quiet _ (Oper.mk _ (.load _ _) _ _ _ _) _ _ _; (first | (refine q_load (v := ?_) (r := ?_) rfl rfl ?_ ?_ ?_ (hK _ ?_); rotate_left 2; (with_reducible assumption); (repeat first | exact .head _ | apply List.Mem.tail); (focus (intro _; simp [hfe, hm0, hv5]; done))) | (refine q_loadC (v := ?_) (row := ?_) rfl rfl ?_ ?_ ?_ (hK _ ?_); rotate_left 2; (repeat first | exact .head _ | apply List.Mem.tail); (exact rfl); (focus (intro _; simp [hfe, hm0, hv5]; done)))); clear hK K; simp only [Act.put, List.setIfInBounds_toArray, List.set_cons_succ, List.set_cons_zero, hfe, hm0, hv5]) | (go_big_quiet_op; (try refine ⟨_, fun _ _ => rfl, ?_⟩); refine hK _ ?_; clear hK K)) | (refine treeC_call (v := ?_) ⟨_, H, by repeat first | exact .here | apply Suf.there⟩ rfl rfl (fun w3 H K hK => ?_) ?_; rotate_left 1; (focus (simp only [List.getElem_toArray, List.getElem_cons_succ, List.getElem_cons_zero]; first | (go_big_op; first | exact hK _ (Ext.refl _) | (go_at_call 30; (with_reducible refine (h9 _ _ (by first | fail)).mono ?_); rintro e w3 ⟨rfl, hb⟩; dsimp only; first | exact hK _ hb | exact hK _ (Ext.refl _)) | (go_at_call 41; (with_reducible refine (hN1 _).mono ?_); rintro e w3 ⟨rfl, hb⟩; dsimp only; first | exact hK _ hb | exact hK _ (Ext.refl _)) | (go_at_call 44; (with_reducible refine (hN2 _).mono ?_); rintro e w3 ⟨rfl, hb⟩; dsimp only; first | exact hK _ hb | exact hK _ (Ext.refl _)) | (go_at_call 46; (with_reducible refine (xlenN_any _).mono ?_); rintro e w3 ⟨rfl, hb⟩; dsimp only; first | exact hK _ hb | exact hK _ (Ext.refl _)) | (go_at_call 40; (with_reducible refine (tallN_any _).mono ?_); rintro e w3 ⟨rfl, hb⟩; dsimp only; first | exact hK _ hb | exact hK _ (Ext.refl _)) | (go_at_call 38; (with_reducible refine (plain21_any _ _ _ _ _ _ _).mono ?_); rintro e w3 ⟨rfl, hb⟩; dsimp only; first | exact hK _ hb | exact hK _ (Ext.refl _)) | (go_at_call 44; (first | fail); (first | fail); (first | fail); (first | fail); (first | fail); (with_reducible refine (hadd _ H (by first | fail) (by first | fail)).mono ?_); rintro e w3 ⟨rfl, H2⟩; dsimp only; first | exact hK _ hb | exact hK _ (Ext.refl _))))); simp only [List.getElem_toArray, List.getElem_cons_succ, List.getElem_cons_zero, Act.put, List.setIfInBounds_toArray, List.set_cons_succ, List.set_cons_zero, hfe, hm0, hv5]) | (refine treeC_skip ⟨_, H, by repeat first | exact .here | apply Suf.there⟩ rfl rfl ?_; simp only [List.getElem_toArray, List.getElem_cons_succ, List.getElem_cons_zero, Act.put, List.setIfInBounds_toArray, List.set_cons_succ, List.set_cons_zero, hfe, hm0, hv5])) | (guard_target =~ wpTreeC _ _ _ (Tr.both _ _) _ _ _; refine treeC_both ?_ ?_) | (guard_target =~ wpTreeC _ _ _ (Tr.e _ _) _ _ _; first | (refine treeC_one H rfl rfl (fun w3 H2 K hK => ?_); clear H; (try clear w2); (revert w3; intro w2 H); simp only [List.getElem_toArray, List.getElem_cons_succ, List.getElem_cons_zero]; first | ((first | fail); simp only [Act.put, List.setIfInBounds_toArray, List.set_cons_succ, List.set_cons_zero, hfe, hm0, hv5]) | (go_big_op; (first | fail))) | (refine treeC_one_skip (fun w3 hx => ⟨_, H.ext hx, by repeat first | exact .here | apply Suf.there⟩) rfl rfl (fun w3 hx => ?_); replace H := H.ext hx; clear hx; (try clear w2); revert w3; intro w2 H; simp only [List.getElem_toArray, List.getElem_cons_succ, List.getElem_cons_zero, Act.put, List.setIfInBounds_toArray, List.set_cons_succ, List.set_cons_zero, hfe, hm0, hv5])) | (guard_target =~ wpTreeC _ _ _ Tr.nil _ _ _; refine treeC_nil H (fun w3 H2 => ?_); clear H; (try clear w2); revert w3; intro w2 H)))
                all_goals
                  exact bodyPost_ret (v := .bool true) (by simp [results, Try.results11]) rfl ⟨rfl, H.below⟩
              · have tk0 : True := trivial
                go_wp2_with (first
                  | (go_at_call 30; (with_reducible refine (h9 _ _ (by exact H.giveRd m9 f9)).mono ?_); rintro e w3 ⟨rfl, hb⟩; replace H := H.ext hb; clear hb; dsimp only; (skip))
                  | (guard_target =~ Code.wp _ (Code.region 26 _ true) _ _ _; (replace H:Own _ _ _ (Res.cells bx _ :: _) := H); refine region_treeC0 26 (G := True) (.q 0 (.q 1 (.q 2 (.q 3 (.q 4 (.q 5 (.q 6 (.q 7 (.q 8 (.q 9 (.q 10 (.q 11 (.q 12 (.q 13 (.q 14 (.q 15 (.q 16 (.q 17 (.q 18 (.q 19 (.q 20 (.q 21 (.e 22 (.q 23 (.q 24 (.q 25 .nil)))))))))))))))))))))))))) (by kernel_rfl) (by intro c a d v w h; cases d <;> first | exact h | exact hQ h) (by kernel_rfl) H ⟨trivial⟩ (fun _ w3 H2 => ?_); (clear H; (try clear w2); revert w3; intro w2 H))
                  | (go_at_call 41; (with_reducible refine (hN1 _).mono ?_); rintro e w3 ⟨rfl, hb⟩; replace H := H.ext hb; clear hb; dsimp only; (skip))
                  | (go_at_call 44; (with_reducible refine (hN2 _).mono ?_); rintro e w3 ⟨rfl, hb⟩; replace H := H.ext hb; clear hb; dsimp only; (skip))
                  | (go_at_call 46; (with_reducible refine (xlenN_any _).mono ?_); rintro e w3 ⟨rfl, hb⟩; replace H := H.ext hb; clear hb; dsimp only; (skip))
                  | (go_at_call 40; (with_reducible refine (tallN_any _).mono ?_); rintro e w3 ⟨rfl, hb⟩; replace H := H.ext hb; clear hb; dsimp only; (skip))
                  | (go_at_call 38; (with_reducible refine (plain21_any _ _ _ _ _ _ _).mono ?_); rintro e w3 ⟨rfl, hb⟩; replace H := H.ext hb; clear hb; dsimp only; (skip))
                  | (go_at_call 44; (replace H:Own _ _ _ (mEnd _ _ :: _) := H.front5); (replace H:Own _ _ _ (mSeg _ _ :: _) := H.front5); (replace H:Own _ _ _ (Res.grow 121 _ _ _ _ :: _) := H.front5); (replace H:Own _ _ _ (Res.grow 127 _ _ _ _ :: _) := H.front5); (replace H:Own _ _ _ (Res.cells bx _ :: _) := H.front5); (with_reducible refine (hadd _ H (by exact H.giveRd m10 f0) (by exact H.giveRd m9 f9)).mono ?_); rintro e w3 ⟨rfl, H2⟩; replace H := H2; clear H2; dsimp only; (skip))
                  | (guard_target =~ wpList _ _ _ (_ :: _) _ _; (first | (guard_target =~ wpList _ _ _ (Oper.mk _ (.load _ _) _ _ _ _ :: _) _ _; refine BigFrame.wpList_want rfl (fun K hK => ?_); (refine o_loadNC (row := ?_) rfl rfl H ?_ ?_ ?_ (hK _ _ ?_); rotate_left 1; (repeat first | exact .head _ | apply List.Mem.tail); (focus (intro _; simp [hfe, hm0, hv5]; done)); (focus (intro _; simp [hfe, hm0, hv5]; done))); clear hK K) | (guard_target =~ wpList _ _ _ (Oper.mk _ (.store _ _ _) _ _ _ _ :: _) _ _; refine BigFrame.wpList_want rfl (fun K hK => ?_); refine o_store (l' := ?_) (row := ?_) rfl rfl H rfl ?_ ?_ ?_ ?_ (fun w3 H2 => hK _ _ ?_); rotate_left 2; (exact r0); (focus (intro _; (simp [Act.eval, Value.cells, List.getD, hfe, hm0, hv5]; done))); (focus (simp [Act.eval, Value.cells, List.getD, hfe, hm0, hv5]; done)); (exact rfl); clear hK K; clear H; (try clear w2); revert w3; intro w2 H; (try simp [Act.eval, List.getD, hfe, hm0, hv5] at H); (try simp [Value.cells, setL, hfe, hm0, hv5] at H)) | ((guard_target =~ wpList _ _ _ (Oper.mk _ (.alloc _) _ _ _ _ :: _) _ _; refine BigFrame.wpList_want rfl (fun K hK => ?_); refine o_alloc (z := ?_) rfl ?_ H rfl (fun w3 b2 he H2 => hK _ _ ?_); rotate_left 1; (focus (intro _; simp; with_reducible exact rfl))); clear hK K he; clear H; (try clear w2); revert w3; intro w2 H; (try simp [Act.eval, List.getD, hfe, hm0, hv5] at H); (try simp [Value.cells, setL, hfe, hm0, hv5] at H); (clear tk0; rename Nat => b3))); simp only [Act.put, List.setIfInBounds_toArray, List.set_cons_succ, List.set_cons_zero, hfe, hm0, hv5])
                  | (guard_target =~ wpTreeC _ _ _ _ _ _ _; first | (guard_target =~ wpTreeC _ _ _ (Tr.e _ Tr.nil) _ _ _; refine treeC_last (by decide +kernel) H rfl rfl (fun w3 H2 K hK => ?_); clear H; (try clear w2); (revert w3; intro w2 H); simp only [List.getElem_toArray, List.getElem_cons_succ, List.getElem_cons_zero]; (first | fail); simp only [Act.put, List.setIfInBounds_toArray, List.set_cons_succ, List.set_cons_zero, hfe, hm0, hv5]) | (guard_target =~ wpTreeC _ _ _ (Tr.q _ _) _ _ _; first | (refine treeC_quiet ⟨_, H, by repeat first | exact .here | apply Suf.there⟩ rfl rfl rfl (fun K hK => ?_); simp only [List.getElem_toArray, List.getElem_cons_succ, List.getElem_cons_zero]; first | (guard_target =~ Oper.quiet _ (Oper.mk _ (.load _ _) _ _ _ _) _ _ _; (first | (refine q_load (v := ?_) (r := ?_) rfl rfl ?_ ?_ ?_ (hK _ ?_); rotate_left 2; (with_reducible assumption); (repeat first | exact .head _ | apply List.Mem.tail); (focus (intro _; simp [hfe, hm0, hv5]; done))) | (refine q_loadC (v := ?_) (row := ?_) rfl rfl ?_ ?_ ?_ (hK _ ?_); rotate_left 2; (repeat first | exact .head _ | apply List.Mem.tail); (exact rfl); (focus (intro _; simp [hfe, hm0, hv5]; done)))); clear hK K; simp only [Act.put, List.setIfInBounds_toArray, List.set_cons_succ, List.set_cons_zero, hfe, hm0, hv5]) | (go_big_quiet_op; (try refine ⟨_, fun _ _ => rfl, ?_⟩); refine hK _ ?_; clear hK K)) | (refine treeC_call (v := ?_) ⟨_, H, by repeat first | exact .here | apply Suf.there⟩ rfl rfl (fun w3 H K hK => ?_) ?_; rotate_left 1; (focus (simp only [List.getElem_toArray, List.getElem_cons_succ, List.getElem_cons_zero]; first | (go_big_op; first | exact hK _ (Ext.refl _) | (go_at_call 30; (with_reducible refine (h9 _ _ (by first | fail)).mono ?_); rintro e w3 ⟨rfl, hb⟩; dsimp only; first | exact hK _ hb | exact hK _ (Ext.refl _)) | (go_at_call 41; (with_reducible refine (hN1 _).mono ?_); rintro e w3 ⟨rfl, hb⟩; dsimp only; first | exact hK _ hb | exact hK _ (Ext.refl _)) | (go_at_call 44; (with_reducible refine (hN2 _).mono ?_); rintro e w3 ⟨rfl, hb⟩; dsimp only; first | exact hK _ hb | exact hK _ (Ext.refl _)) | (go_at_call 46; (with_reducible refine (xlenN_any _).mono ?_); rintro e w3 ⟨rfl, hb⟩; dsimp only; first | exact hK _ hb | exact hK _ (Ext.refl _)) | (go_at_call 40; (with_reducible refine (tallN_any _).mono ?_); rintro e w3 ⟨rfl, hb⟩; dsimp only; first | exact hK _ hb | exact hK _ (Ext.refl _)) | (go_at_call 38; (with_reducible refine (plain21_any _ _ _ _ _ _ _).mono ?_); rintro e w3 ⟨rfl, hb⟩; dsimp only; first | exact hK _ hb | exact hK _ (Ext.refl _)) | (go_at_call 44; (first | fail); (first | fail); (first | fail); (first | fail); (first | fail); (with_reducible refine (hadd _ H (by first | fail) (by first | fail)).mono ?_); rintro e w3 ⟨rfl, H2⟩; dsimp only; first | exact hK _ hb | exact hK _ (Ext.refl _))))); simp only [List.getElem_toArray, List.getElem_cons_succ, List.getElem_cons_zero, Act.put, List.setIfInBounds_toArray, List.set_cons_succ, List.set_cons_zero, hfe, hm0, hv5]) | (refine treeC_skip ⟨_, H, by repeat first | exact .here | apply Suf.there⟩ rfl rfl ?_; simp only [List.getElem_toArray, List.getElem_cons_succ, List.getElem_cons_zero, Act.put, List.setIfInBounds_toArray, List.set_cons_succ, List.set_cons_zero, hfe, hm0, hv5])) | (guard_target =~ wpTreeC _ _ _ (Tr.both _ _) _ _ _; refine treeC_both ?_ ?_) | (guard_target =~ wpTreeC _ _ _ (Tr.e _ _) _ _ _; first | (refine treeC_one H rfl rfl (fun w3 H2 K hK => ?_); clear H; (try clear w2); (revert w3; intro w2 H); simp only [List.getElem_toArray, List.getElem_cons_succ, List.getElem_cons_zero]; first | ((first | fail); simp only [Act.put, List.setIfInBounds_toArray, List.set_cons_succ, List.set_cons_zero, hfe, hm0, hv5]) | (go_big_op; (first | fail))) | (refine treeC_one_skip (fun w3 hx => ⟨_, H.ext hx, by repeat first | exact .here | apply Suf.there⟩) rfl rfl (fun w3 hx => ?_); replace H := H.ext hx; clear hx; (try clear w2); revert w3; intro w2 H; simp only [List.getElem_toArray, List.getElem_cons_succ, List.getElem_cons_zero, Act.put, List.setIfInBounds_toArray, List.set_cons_succ, List.set_cons_zero, hfe, hm0, hv5])) | (guard_target =~ wpTreeC _ _ _ Tr.nil _ _ _; refine treeC_nil H (fun w3 H2 => ?_); clear H; (try clear w2); revert w3; intro w2 H)))
                all_goals
                  exact bodyPost_ret (v := .bool true) (by simp [results, Try.results11]) rfl ⟨rfl, H.below⟩
end Go.Proofs.Ytlhmjhildlnokaa

/-
  Two closed facts of a seat's program.
-/
namespace Go.Proofs.Ytlhmjhildlnokaa
theorem Try.own0 : ownKnob Try.prog.godebug = none := by kernel_rfl
theorem Try.laidOut : laidOutB Try.prog = true := by kernel_rfl
end Go.Proofs.Ytlhmjhildlnokaa

/-
  An argument that is a slice of whole numbers.
-/
namespace Go.Proofs.Ytlhmjhildlnokaa
set_option linter.unusedVariables false
set_option linter.constructorNameAsVariable false
open Go.RowKit Go.WideShapes Go.ChangeShapes
section
variable {H : Type} {enc : TypeId × Value → H} {P : Program} {w : World} {base : Nat} {spare : Nat → Bool} {held : Bool}
/-- A slice of integers of one kind: its cells, each within that kind. -/
theorem open_nums {r : Reach} {b0 : Nat} {t e : TypeId} {k : IntKind} {v : Value} {d : DataW H} {p : List MemPlace} (ht : P.underlying t = some (.slice e)) (he : P.underlying e = some (.int k)) (hc : P.cellsOf e = 1)
    (hv : Value.okWide P w r b0 t v) (h : DataW.Trod enc P w base spare held t v d p) :
    ∃ (A : Option Addr) (cap : Nat) (L : List Int), v = .slice A L.length cap ∧ L.length ≤ cap ∧ cap ≤ maxLen ∧ (∀ n ∈ L, (Lit.int k n).wf = true) ∧ Sl (fun _ => False) w A (L.map (Value.int k)) := by
  obtain ⟨a0, len0, cap0, rfl⟩ := okWide_slice ht hv
  obtain ⟨fuel, hf⟩ := h
  rcases DataW.trod_slice ht hf with ⟨hcs, _⟩ | ⟨a, len, cap, elems, rest, n', _, hcs, _, hb, hl, hm, hlen, hel, _⟩
  · simp [Value.cells] at hcs
    obtain ⟨rfl, rfl, rfl⟩ := hcs
    exact ⟨none, 0, [], rfl, Nat.le_refl _, Nat.zero_le _, by simp, row_sl (Row.nil_ _ _)⟩
  · simp [Value.cells] at hcs
    obtain ⟨rfl, rfl, rfl⟩ := hcs
    have each : ∀ i, i < len0 → ∃ n : Int, (Lit.int k n).wf = true ∧ w.cell? (a.add i) = some (.int k n) := by
      intro i hi
      have h1 := hel i hi
      have h2 : elems[i]? = some elems[i] := List.getElem?_eq_getElem (by omega)
      rw [h2, Option.bind_eq_some_iff] at h1
      obtain ⟨cs', h3, h4⟩ := h1
      obtain ⟨n, rfl, _, hw⟩ := DataW.trod_int he h4
      refine ⟨n, hw, ?_⟩
      have h5 := World.cells?_some h3
      rw [hc] at h5
      have := h5.2.2 0 (by omega)
      simp only [Nat.mul_one] at this
      rw [show (a.add i).add 0 = a.add i by rw [add_add, Nat.add_zero]] at this
      simpa using this
    have choose : ∀ q, q ≤ len0 → ∃ L : List Int, L.length = q ∧ (∀ n ∈ L, (Lit.int k n).wf = true) ∧ ∀ i n, L[i]? = some n → w.cell? (a.add i) = some (.int k n) := by
      intro q
      induction q with
      | zero => exact fun _ => ⟨[], rfl, by simp, by simp⟩
      | succ q ih =>
        intro hk
        obtain ⟨L, h1, h2, h3⟩ := ih (by omega)
        obtain ⟨v, h4, h5⟩ := each q (by omega)
        refine ⟨L ++ [v], by simp [h1], fun u hu => ?_, fun i u hi => ?_⟩
        · rcases List.mem_append.1 hu with hu | hu
          · exact h2 u hu
          · obtain rfl := List.mem_singleton.1 hu; exact h4
        · rw [List.getElem?_append] at hi
          split at hi
          · exact h3 i u hi
          · rename_i hik
            have : i - L.length = 0 := by
              by_cases h0 : i - L.length = 0
              · exact h0
              · rw [List.getElem?_eq_none (by simp; omega)] at hi; cases hi
            rw [this] at hi
            obtain rfl : v = u := by simpa using hi
            obtain rfl : i = q := by omega
            exact h5
    obtain ⟨L, h1, h2, h3⟩ := choose len0 (Nat.le_refl _)
    refine ⟨some a, cap0, L, by rw [h1], by omega, hm, h2, row_sl (Row.of_cells fun j v hv => ?_)⟩
    rw [List.getElem?_map] at hv
    obtain ⟨n, h4, rfl⟩ := Option.map_eq_some_iff.1 hv
    exact h3 j n h4
end
end Go.Proofs.Ytlhmjhildlnokaa

/-
  An argument that is an array of four integers. Nothing of the program stands here.
-/
namespace Go.Proofs.Ytlhmjhildlnokaa
set_option linter.unusedVariables false
open Go.RowKit Go.WideShapes Go.ChangeShapes
section
variable {H : Type} {enc : TypeId × Value → H} {P : Program} {w : World} {base : Nat} {spare : Nat → Bool} {held : Bool}
theorem open_arr4 {r : Reach} {b0 : Nat} {t e : TypeId} {q : IntKind} {v : Value} {d : DataW H} {p : List MemPlace} (hu : P.underlying t = some (.array 4 e)) (he : P.underlying e = some (.int q)) (hc : P.cellsOf e = 1) (hC : P.cellsOf t = 4)
    (hv : Value.okWide P w r b0 t v) (h : DataW.Trod enc P w base spare held t v d p) :
    ∃ a b c x : Int, v = .agg #[.int q a, .int q b, .int q c, .int q x] ∧ (Lit.int q a).wf = true ∧ (Lit.int q b).wf = true ∧ (Lit.int q c).wf = true ∧ (Lit.int q x).wf = true := by
  simp only [Value.okWide, hu] at hv
  obtain ⟨cs, rfl, hsz, _⟩ := hv
  rw [hC] at hsz
  obtain ⟨c0, c1, c2, c3, rfl⟩ : ∃ c0 c1 c2 c3, cs = #[c0, c1, c2, c3] := by
    obtain ⟨l⟩ := cs
    match l, hsz with
    | [c0, c1, c2, c3], _ => exact ⟨c0, c1, c2, c3, rfl⟩
  obtain ⟨fuel, hf⟩ := h
  cases fuel with
  | zero => simp [DataW.trod] at hf
  | succ m =>
    rw [DataW.trod_step] at hf
    unfold DataW.trodStep at hf
    simp only [hu, Value.cells] at hf
    rw [if_pos (by rw [hC]; rfl), hc] at hf
    simp only [Option.map_eq_some_iff] at hf
    obtain ⟨ys, hy, _⟩ := hf
    have hr : List.range 4 = [0, 1, 2, 3] := rfl
    rw [hr] at hy
    simp only [List.mapM_cons, bind, Option.bind_eq_some_iff] at hy
    obtain ⟨y0, h0, _, ⟨y1, h1, _, ⟨y2, h2, _, ⟨y3, h3, _⟩, _⟩, _⟩, _⟩ := hy
    obtain ⟨a, ea, _, wa⟩ := DataW.trod_int he h0
    obtain ⟨b, eb, _, wb⟩ := DataW.trod_int he h1
    obtain ⟨c, ec, _, wc⟩ := DataW.trod_int he h2
    obtain ⟨x, ex, _, wx⟩ := DataW.trod_int he h3
    simp at ea eb ec ex
    subst ea eb ec ex
    exact ⟨a, b, c, x, rfl, wa, wb, wc, wx⟩
end
end Go.Proofs.Ytlhmjhildlnokaa

/-
  The statement TrapRefuses, proved: for every input the law answers true, and each argument reads behind the call as it did. No condition.
-/
namespace Go.Proofs.Ytlhmjhildlnokaa
namespace trapRefuses
open Go.ChangeShapes Go.WideShapes Go.ChangeAt Go.RowKit
open Go.ChangeMaps (open_string)
set_option maxRecDepth 100000 in
theorem lifted (os : Os) (started : os.Started) (H : Type) (enc : TypeId × Value → H) :
    ReturnsInHanded {} Try.checked os 11 .any (Rows.trapRefusesSpec.pre6 enc Try.prog Try.f11 Rows.trapRefusesRow.domain false) (Rows.trapRefusesSpec.post enc Try.prog Try.f11 false true false false) := by
  refine returnsInHanded_of_change (C := Try.checked) Try.own0 started (by kernel_rfl) Try.func11
    (ChangeSpec.witness6 (enc := enc) (C := Try.checked) false ⟨#[], #[.agg #[.slice none 0 0, .slice none 0 0], .slice none 0 0, .int .i64 0, .agg #[.int .i64 0, .int .i64 0]], []⟩ 8 (by kernel_rfl) (by kernel_rfl) (by kernel_rfl) (by kernel_rfl)) ?_
  intro W base args ds gs before hval0 hW _ _
  have hval : ∀ (j : Nat) t v, Try.f11.params[j]? = some t → args[j]? = some v → Value.okWide Try.prog W .any base t v := hval0
  refine law_calls Try.laidOut (by kernel_rfl) rfl rfl Try.underlying4 (fun ds h => by match ds, h with | [_, _, _, _], _ => rfl) hW ?_
  obtain ⟨p, q, hA0, _, _, _, _⟩ := hW
  have hA : DataW.TrodAll enc Try.prog W 0 (fun _ => true) true Try.f11.params.toList args.toList ds p := hA0
  rw [Try.params11] at hA hval
  obtain ⟨v0, vs0, d0, ds0, p0, q0, hargs, rfl, rfl, h0, r0⟩ := trodAll_cons hA
  obtain ⟨v1, vs1, d1, ds1, p1, q1, rfl, rfl, rfl, h1, r1⟩ := trodAll_cons r0
  obtain ⟨v2, vs2, d2, ds2, p2, q2, rfl, rfl, rfl, h2, r2⟩ := trodAll_cons r1
  obtain ⟨v3, vs3, d3, ds3, p3, q3, rfl, rfl, rfl, h3, r3⟩ := trodAll_cons r2
  obtain ⟨rfl, rfl, rfl⟩ := trodAll_nil r3
  obtain rfl : args = #[v0, v1, v2, v3] := by cases args; simp_all
  obtain ⟨A0, B0, c0, e0, vs0_, es0_, rfl, pl0⟩ := open_plan (hval 0 25 v0 rfl rfl) h0
  obtain ⟨A1, c1, L1, rfl, lb1, lc1, lw1, ls1⟩ := open_nums (e := 3) (by kernel_rfl) (by kernel_rfl) (by kernel_rfl) (hval 1 43 v1 rfl rfl) h1
  obtain ⟨edge, rfl, rfl, rfl, w2⟩ := open_int Try.underlying3 (hval 2 3 v2 rfl rfl) h2
  obtain ⟨px3, py3, rfl, _, _⟩ := open_pt (hval 3 47 v3 rfl rfl) h3
  exact law_TrapRefuses A0 B0 c0 e0 vs0_ es0_ A1 c1 L1 edge px3 py3 W pl0 ls1
set_option maxRecDepth 100000 in
set_option maxHeartbeats 4000000 in
theorem closed : joinedFacts Try.pinned.checked.prog 11 Try.f11 Rows.trapRefusesSpec Rows.trapRefusesRow = true := by
  have key : ∀ P : Program, P = Try.pinned.checked.prog → joinedFacts P 11 Try.f11 Rows.trapRefusesSpec Rows.trapRefusesRow = true := by
    intro P hP
    unfold joinedFacts
    simp only [Bool.and_eq_true]
    repeat' apply And.intro
    all_goals first
      | (guard_target =~ Program.mayEnter _ = true; rw [hP]; exact may_enter)
      | (guard_target =~ (_ == Program.liftsFinal _) = true; rw [hP, lifts_final]; rfl)
      | (guard_target =~ (Program.make _ == _) = true; rw [hP, make_cut]; rfl)
      | (rw [hP]; as_aux_lemma => kernel_rfl)
      | (as_aux_lemma => kernel_rfl)
  exact key _ rfl
theorem over : Rows.trapRefusesRow.holds Try.pinned (OpenSpec.ofChange Rows.trapRefusesSpec) :=
  OpenClaim.holds_of_wide 11 Try.f11 rfl rfl rfl rfl rfl rfl rfl ⟨rfl, rfl, rfl, rfl, rfl⟩ rfl rfl rfl rfl rfl (by kernel_rfl) Try.func11 closed
    (of_decide_eq_true (by kernel_rfl)) (by unfold Func.isWrapper; first | (rw [if_pos (by decide +kernel)]; kernel_rfl) | (rw [if_neg (by decide +kernel)]; exact ⟨rfl, rfl⟩))
    (fun os started H enc _ => lifted os started H enc)
theorem proved : Rows.TrapRefusesSaid :=
  over
end trapRefuses
end Go.Proofs.Ytlhmjhildlnokaa
