/-
  The walk of the index's put.
-/
import Derived.Test.YtlhmjhildlnokaaTrap6a
import Derived.Test.YtlhmjhildlnokaaTrap6b
import Derived.Test.YtlhmjhildlnokaaTrap6g
namespace Go.Proofs.Ytlhmjhildlnokaa
set_option linter.unusedVariables false
set_option linter.unusedSimpArgs false
open Go.RowKit Go.Sort Go.Shelf

theorem cutA_again {K V : Type} [DecidableEq K] (A : List (K × V)) (k : K) (u : V) : cutA ((k, u) :: cutA A k) k = cutA A k := by
  unfold cutA
  rw [List.filter_cons]
  simp
theorem nR1_at {all : List Nat} {j n : Nat} (h : all[j]? = some n) : ((nR1 all).drop j).take 1 = [.int .i64 (n : Int)] := by
  have : (nR1 all)[j]? = some (.int .i64 (n : Int)) := by simp [nR1, h]
  obtain ⟨h1, h2⟩ := List.getElem?_eq_some_iff.1 this
  rw [List.drop_eq_getElem_cons h1, h2]; rfl
theorem tail_u {on n : Nat} {c1 c2 : Bool} {t1 t2 : Tz} {b1 b2 r : Pt} {q : Nd} {X : PSt} : (nodeS on (begS c1 t1 b1 (endS c2 t2 b2 (rtS r n X, q)))).u = X.u ∧ (nodeS on (begS c1 t1 b1 (endS c2 t2 b2 (rtS r n X, q)))).d = X.d := by
  cases c1 <;> cases c2 <;> exact ⟨rfl, rfl⟩
def PutRel (id : Int) (s : Sg) (all : List Nat) (X0 : PSt) (B : Nat) (w0 : World) (bx ks ke : Nat) (l : List Res) (j : Nat) (u d : Value) (wr : World) : Prop :=
  ∃ X dn dp cn cp, X = roundsS id s all j X0 ∧ PInv X0.N.length X0.P (all.drop j) X ∧ X.N.length ≤ X0.N.length + 6 * j ∧ X.P.length ≤ X0.P.length + 6 * j ∧ (j = 0 ∧ u = .int .i64 (-1) ∧ d = .int .i64 (-1) ∨ 0 < j ∧ u = .int .i64 (X.u : Int) ∧ d = .int .i64 (X.d : Int) ∧ LeafIn X0.N.length X0.P.length X X.u ∧ LeafIn X0.N.length X0.P.length X X.d) ∧
    Own B w0 wr (xB bx ks ke X.N.length X.P.length cn cp dn dp :: nG dn X.N.length cn X.N :: pG dp X.P.length cp X.P :: l)
set_option maxRecDepth 100000 in
set_option maxHeartbeats 64000000 in
theorem put_any {B : Nat} {w0 w : World} {l : List Res} {bx ks ke cn cp dn dp : Nat} {N : List Nd} {P : List Pc} {S : List (Int × Sg)} {E : List (Pt × Bool)} (id : Int) (s : Sg)
    (hW : ∀ p ∈ P, 0 ≤ p.n ∧ p.n < N.length) (hP : 0 < P.length) (hN : 0 < N.length) (hnl : N.length + 6 * P.length ≤ 999900) (hpl : P.length + 6 * P.length ≤ 999900)
    (H : Own B w0 w (xB bx ks ke N.length P.length cn cp dn dp :: nG dn N.length cn N :: pG dp P.length cp P :: mSeg ks S :: mEnd ke E :: l)) :
    Calls Try.prog 62 #[.pointer (some ⟨bx, 0, none⟩), .int .i64 id, sgV s] w fun e w' => e = .returned (.tuple #[]) ∧ ∃ all X dn' dp' cn' cp', CrossP P S s all ∧ X = roundsS id s all all.length ⟨N, P, 0, 0⟩ ∧
      Own B w0 w' (xB bx ks ke X.N.length X.P.length cn' cp' dn' dp' :: nG dn' X.N.length cn' X.N :: pG dp' X.P.length cp' X.P :: mSeg ks ((id, s) :: cutA S id) :: mEnd ke ((s.b, true) :: cutA ((s.a, true) :: cutA E s.a) s.b) :: l) := by
  obtain ⟨⟨ax, ay⟩, ⟨sx, sy⟩⟩ := s
  simp only [sgV, xB, nG, pG] at H ⊢
  have HW := Lib.hid hW
  clear hW
  go_enter Try.func62, Try.ntmps62
  have tk0 : True := trivial
  go_wp2_with (first
    | (go_at_call 81; (replace H:Own _ _ _ (mSeg _ _ :: _) := H.front4); (replace H:Own _ _ _ (Res.grow 121 _ _ _ _ :: _) := H.front4); (replace H:Own _ _ _ (Res.grow 127 _ _ _ _ :: _) := H.front4); (replace H:Own _ _ _ (Res.cells bx _ :: _) := H.front4); (with_reducible refine (tcrossed_any ⟨⟨ax, ay⟩, ⟨sx, sy⟩⟩ rfl hP (by omega) H).mono ?_); rintro e w3 ⟨A6, q, c6, all, rfl, hcross, hq, H2⟩; replace H := H2; clear H2; have HQ := Lib.hid hq; clear hq; dsimp only; (skip))
    | (guard_target =~ Code.wp _ (Code.region 3 _ true) _ _ _; (replace H:Own _ _ _ (mEnd _ _ :: _) := H.front6); refine region_treeC 3 1 (G := True) (.q 0 (.q 1 (.q 2 (.q 3 (.q 4 (.q 5 (.q 6 (.q 7 (.q 8 (.q 9 (.q 10 (.q 11 (.e 12 (.q 13 (.e 14 (.e 15 (.q 16 (.e 17 .nil)))))))))))))))))) (by kernel_rfl) (by intro c a d v w h; cases d <;> first | exact h | exact hQ h) (by kernel_rfl) H ⟨trivial⟩ (fun _ w3 H2 => ?_); (clear H; (try clear w2); revert w3; intro w2 H); simp only [List.drop_succ_cons, List.drop_zero])
    | (guard_target =~ Code.wp _ (Code.region 2 _ true) _ _ _; refine region_treeC0 2 (G := True) (.q 0 (.q 4 (.q 5 (.e 1 (.q 2 (.q 3 (.e 6 .nil))))))) (by kernel_rfl) (by intro c a d v w h; cases d <;> first | exact h | exact hQ h) (by kernel_rfl) H ⟨trivial⟩ (fun _ w3 H2 => ?_); (clear H; (try clear w2); revert w3; intro w2 H))
    | (guard_target =~ wpList _ _ _ (_ :: _) _ _; (first | (guard_target =~ wpList _ _ _ (Oper.mk _ (.load _ _) _ _ _ _ :: _) _ _; refine BigFrame.wpList_want rfl (fun K hK => ?_); (refine o_loadNC (row := ?_) rfl rfl H ?_ ?_ ?_ (hK _ _ ?_); rotate_left 1; (repeat first | exact .head _ | apply List.Mem.tail); (focus (intro _; simp; done)); (focus (intro _; simp; done))); clear hK K) | ((guard_target =~ wpList _ _ _ (Oper.mk _ (.box _ _) _ _ _ _ :: _) _ _; refine BigFrame.wpList_want rfl (fun K hK => ?_); refine o_box rfl H rfl (fun w3 b2 he H2 => hK _ _ ?_)); clear hK K he; clear H; (try clear w2); revert w3; intro w2 H; simp [Act.eval, Value.cells, setL, List.getD] at H; (clear tk0; rename Nat => b5))); simp only [Act.put, List.setIfInBounds_toArray, List.set_cons_succ, List.set_cons_zero])
    | (guard_target =~ wpTreeC _ _ _ _ _ _ _; first | (guard_target =~ wpTreeC _ _ _ (Tr.e _ Tr.nil) _ _ _; refine treeC_last (by decide +kernel) H rfl rfl (fun w3 H2 K hK => ?_); clear H; (try clear w2); (revert w3; intro w2 H); simp only [List.getElem_toArray, List.getElem_cons_succ, List.getElem_cons_zero]; (first | (guard_target =~ Oper.wp _ (Oper.mk _ (.entryStore _ _ _ _) _ _ _ _) _ _ _ _; refine o_endPut (m := ?_) (k := ?_) (l0 := ?_) rfl rfl rfl rfl H ?_ (fun w3 H2 => hK _ _ ?_); rotate_left 3; (focus (intro _; (exact r0))); clear hK K; clear H; (try clear w2); revert w3; intro w2 H) | (guard_target =~ Oper.wp _ (Oper.mk _ (.mapUpdate _ _ _ _) _ _ _ _) _ _ _ _; refine o_segSet (l0 := ?_) (m := ?_) rfl rfl rfl rfl H ?_ (fun w3 H2 => hK _ _ ?_); rotate_left 2; (focus (intro _; (exact r4))); clear hK K; clear H; (try clear w2); revert w3; intro w2 H)); simp only [Act.put, List.setIfInBounds_toArray, List.set_cons_succ, List.set_cons_zero]) | (guard_target =~ wpTreeC _ _ _ (Tr.q _ _) _ _ _; first | (refine treeC_quiet ⟨_, H, by repeat first | exact .here | apply Suf.there⟩ rfl rfl rfl (fun K hK => ?_); simp only [List.getElem_toArray, List.getElem_cons_succ, List.getElem_cons_zero]; first | (guard_target =~ Oper.quiet _ (Oper.mk _ (.lookup _ _ _ false) _ _ _ _) _ _ _; refine q_segGet (m := ?_) rfl rfl rfl ?_ (hK _ ?_); rotate_left 1; (repeat first | exact .head _ | apply List.Mem.tail); clear hK K; simp only [Act.put, List.setIfInBounds_toArray, List.set_cons_succ, List.set_cons_zero]) | (guard_target =~ Oper.quiet _ (Oper.mk _ (.lookup _ _ _ true) _ _ _ _) _ _ _; refine q_segOk (m := ?_) rfl rfl rfl ?_ (hK _ ?_); rotate_left 1; (repeat first | exact .head _ | apply List.Mem.tail); clear hK K; simp only [Act.put, List.setIfInBounds_toArray, List.set_cons_succ, List.set_cons_zero]) | (guard_target =~ Oper.quiet _ (Oper.mk _ (.load _ _) _ _ _ _) _ _ _; (first | (refine q_loadSa (t0 := ?_) (t1 := ?_) (t2 := ?_) (t3 := ?_) rfl rfl ?_ ?_ ?_ (hK _ ?_); rotate_left 4; (repeat first | exact .head _ | apply List.Mem.tail); (focus (intro _; simp; done)); (focus (intro _; simp; done))) | (refine q_loadSb (t0 := ?_) (t1 := ?_) (t2 := ?_) (t3 := ?_) rfl rfl ?_ ?_ ?_ (hK _ ?_); rotate_left 4; (repeat first | exact .head _ | apply List.Mem.tail); (focus (intro _; simp; done)); (focus (intro _; simp; done))) | (refine q_loadC (v := ?_) (row := ?_) rfl rfl ?_ ?_ ?_ (hK _ ?_); rotate_left 2; (repeat first | exact .head _ | apply List.Mem.tail); (exact rfl); (focus (intro _; simp; done))) | (refine q_loadNC (row := ?_) rfl rfl ?_ ?_ ?_ (hK _ ?_); rotate_left 1; (repeat first | exact .head _ | apply List.Mem.tail); (focus (intro _; simp; done)); (focus (intro _; simp; done)))); clear hK K; simp only [Act.put, List.setIfInBounds_toArray, List.set_cons_succ, List.set_cons_zero]) | (go_big_quiet_op; (try refine ⟨_, fun _ _ => rfl, ?_⟩); refine hK _ ?_; clear hK K)) | (refine treeC_call (v := ?_) ⟨_, H, by repeat first | exact .here | apply Suf.there⟩ rfl rfl (fun w3 H K hK => ?_) ?_; rotate_left 1; (focus (simp only [List.getElem_toArray, List.getElem_cons_succ, List.getElem_cons_zero]; first | (refine o_segLen (m := ?_) rfl H ?_ ?_; rotate_left 1; (repeat first | exact .head _ | apply List.Mem.tail); exact hK _ (Ext.refl _)) | (go_big_op; first | exact hK _ (Ext.refl _) | (go_at_call 81; (first | fail); (first | fail); (first | fail); (first | fail); (with_reducible refine (tcrossed_any ⟨⟨ax, ay⟩, ⟨sx, sy⟩⟩ rfl hP (by omega) H).mono ?_); rintro e w3 ⟨A6, q, c6, all, rfl, hcross, hq, H2⟩; dsimp only; first | exact hK _ hb | exact hK _ (Ext.refl _))))); simp only [List.getElem_toArray, List.getElem_cons_succ, List.getElem_cons_zero, Act.put, List.setIfInBounds_toArray, List.set_cons_succ, List.set_cons_zero]) | (refine treeC_skip ⟨_, H, by repeat first | exact .here | apply Suf.there⟩ rfl rfl ?_; simp only [List.getElem_toArray, List.getElem_cons_succ, List.getElem_cons_zero, Act.put, List.setIfInBounds_toArray, List.set_cons_succ, List.set_cons_zero])) | (guard_target =~ wpTreeC _ _ _ (Tr.both _ _) _ _ _; refine treeC_both ?_ ?_) | (guard_target =~ wpTreeC _ _ _ (Tr.e _ _) _ _ _; first | (refine treeC_one H rfl rfl (fun w3 H2 K hK => ?_); clear H; (try clear w2); (revert w3; intro w2 H); simp only [List.getElem_toArray, List.getElem_cons_succ, List.getElem_cons_zero]; first | ((first | (guard_target =~ Oper.wp _ (Oper.mk _ (.mapEntry _ _ _) _ _ _ _) _ _ _ _; refine o_endEnt (m := ?_) (l0 := ?_) rfl rfl rfl H ?_ (fun w3 v9 st9 H2 => hK _ _ ⟨_, H2, ?_⟩ ?_); rotate_left 2; (focus (intro _ _; (exact r0))); (guard_target =~ Suf _ _; repeat first | exact .here | apply Suf.there); clear hK K; clear H; (try clear w2); revert w3; intro w2 H) | (guard_target =~ Oper.wp _ (Oper.mk _ (.entryStore _ _ _ _) _ _ _ _) _ _ _ _; refine o_endPut (m := ?_) (k := ?_) (l0 := ?_) rfl rfl rfl rfl H ?_ (fun w3 H2 => hK _ _ ⟨_, H2, ?_⟩ ?_); rotate_left 3; (focus (intro _; (exact r0))); (guard_target =~ Suf _ _; repeat first | exact .here | apply Suf.there); clear hK K; clear H; (try clear w2); revert w3; intro w2 H)); simp only [Act.put, List.setIfInBounds_toArray, List.set_cons_succ, List.set_cons_zero]) | (go_big_op; (refine hK _ _ ⟨_, H, by repeat first | exact .here | apply Suf.there⟩ ?_; clear hK K; (try simp only [Act.put, List.setIfInBounds_toArray, List.set_cons_succ, List.set_cons_zero])))) | (refine treeC_one_skip (fun w3 hx => ⟨_, H.ext hx, by repeat first | exact .here | apply Suf.there⟩) rfl rfl (fun w3 hx => ?_); replace H := H.ext hx; clear hx; (try clear w2); revert w3; intro w2 H; simp only [List.getElem_toArray, List.getElem_cons_succ, List.getElem_cons_zero, Act.put, List.setIfInBounds_toArray, List.set_cons_succ, List.set_cons_zero])) | (guard_target =~ wpTreeC _ _ _ Tr.nil _ _ _; refine treeC_nil H (fun w3 H2 => ?_); clear H; (try clear w2); revert w3; intro w2 H)))
  simp only [cutA_again] at H
  obtain ⟨S2, hS2⟩ : ∃ S2, S2 = (id, (⟨⟨ax, ay⟩, ⟨sx, sy⟩⟩ : Sg)) :: cutA S id := ⟨_, rfl⟩
  obtain ⟨E2, hE2⟩ : ∃ E2, E2 = ((⟨sx, sy⟩ : Pt), true) :: cutA (((⟨ax, ay⟩ : Pt), true) :: cutA E ⟨ax, ay⟩) ⟨sx, sy⟩ := ⟨_, rfl⟩
  rw [← hS2, ← hE2] at H
  have HS2 := Lib.hid hS2
  have HE2 := Lib.hid hE2
  have hq := HQ.out
  have HC := Lib.hid hcross
  have hql : q ≤ P.length := by rw [hq, hcross.1.length_eq]; exact crossL_len _ _ _ _
  have hnd : all.Nodup := hcross.1.nodup_iff.2 (List.nodup_range.filter _)
  have hin : ∀ n ∈ all, n < P.length := fun n hn => crossL_lt (hcross.1.subset hn)
  have HND := Lib.hid hnd
  clear hS2 hE2 hq hcross hnd
  go_loopg [48, 7, 8] q (fun k i u d wr => k ≤ q ∧ i = .int .i64 ((q - k : Nat) : Int) ∧ PutRel id ⟨⟨ax, ay⟩, ⟨sx, sy⟩⟩ all ⟨N, P, 0, 0⟩ B w0 bx ks ke (.grow 3 1 (.slice A6 q c6) q (nR1 all) :: .cells b5 [.int .i64 ax, .int .i64 ay, .int .i64 sx, .int .i64 sy] :: mSeg ks S2 :: mEnd ke E2 :: l) (q - k) u d wr)
  case atStart =>
    refine ⟨Nat.le_refl _, by simp, ⟨N, P, 0, 0⟩, dn, dp, cn, cp, by rw [Nat.sub_self]; rfl, ⟨Nat.le_refl _, Nat.le_refl _, fun n hn => ⟨hin n (List.mem_of_mem_drop hn), rfl⟩, HW.out⟩, Nat.le_add_right _ _, Nat.le_add_right _ _, .inl ⟨Nat.sub_self _, rfl, rfl⟩, ?_⟩
    (replace H:Own _ _ _ (mEnd _ _ :: _) := H)
    (replace H:Own _ _ _ (mSeg _ _ :: _) := H.front5)
    (replace H:Own _ _ _ (Res.cells b5 _ :: _) := H.front6)
    (replace H:Own _ _ _ (Res.grow 3 _ _ _ _ :: _) := H.front3)
    (replace H:Own _ _ _ (Res.grow 121 _ _ _ _ :: _) := H.front6)
    (replace H:Own _ _ _ (Res.grow 127 _ _ _ _ :: _) := H.front6)
    (replace H:Own _ _ _ (Res.cells bx _ :: _) := H.front6)
    exact H
  case round =>
    clear H
    obtain ⟨hk, rfl, X, dn, dp, cn, cp, hX, hI, hn6, hp6, hud, H⟩ := hrel
    simp only [xB, nG, pG] at H
    by_cases hlt : 0 < gk
    · obtain ⟨a6, hA6⟩ : ∃ a6, A6 = some ⟨a6, 0, none⟩ := by
        obtain ⟨b, c, he⟩ := H.growSome (e := 3) (size := 1) (n := q) (v := .slice A6 q c6) (xs := nR1 all) m3 (by omega) (by decide)
        injection he with h1 _ _
        exact ⟨b, h1⟩
      subst hA6
      have hlt2 : 0 < gk := hlt
      obtain ⟨j, hj⟩ : ∃ j, q - gk = j := ⟨_, rfl⟩
      have hjl : j < q := by omega
      rw [hj] at hX hI hn6 hp6 hud ⊢
      obtain ⟨n, hn⟩ : ∃ n, all[j]? = some n := ⟨_, List.getElem?_eq_getElem (by have := HQ.out; omega)⟩
      have hdrop : all.drop j = n :: all.drop (j + 1) := by
        rw [List.drop_eq_getElem_cons (List.getElem?_eq_some_iff.1 hn).1, (List.getElem?_eq_some_iff.1 hn).2]
      obtain ⟨hnP, hXn⟩ := hI.rest n (by rw [hdrop]; simp)
      obtain ⟨⟨⟨tp, bt, hl, hr, ⟨lx, ly⟩, ⟨rx, ry⟩⟩, on', gn⟩, hp0⟩ : ∃ p, P[n]? = some p := ⟨_, List.getElem?_eq_getElem hnP⟩
      rw [hp0] at hXn
      have hon := hI.nodes _ (List.mem_of_getElem? hp0)
      obtain ⟨on, rfl⟩ : ∃ on : Nat, on' = (on : Int) := ⟨on'.toNat, by simp only at hon; omega⟩
      obtain ⟨N0, P0, ub0, db0⟩ := X
      simp only at hX hI hn6 hp6 hud hXn hon H
      have hnN := hI.nN
      have hnPl := hI.nP
      obtain ⟨nn0, hn0⟩ : ∃ n, n = N0.length := ⟨_, rfl⟩
      obtain ⟨mm0, hm0⟩ : ∃ n, n = P0.length := ⟨_, rfl⟩
      rw [← hn0] at H hn6 hnN
      rw [← hm0] at H hp6 hnPl
      have hnm : n < mm0 := by rw [hm0]; exact (List.getElem?_eq_some_iff.1 hXn).1
      have honn : on < nn0 := by omega
      have hp := p_grow (n := mm0) (b := dp) (c := cp) hXn
      simp only [pc10] at hp
      have hpa : (Res.grow 3 1 (.slice (some ⟨a6, 0, none⟩) q c6) q (nR1 all)).at a6 j [.int .i64 (n : Int)] := at_grow (nR1_at hn)
      obtain ⟨f, hf⟩ : ∃ f, (((j : Nat) : Int) == 0) = f := ⟨_, rfl⟩
      have e1 : IntKind.i64.wrap ((q : Int) - 1) = (q : Int) - 1 := IntWalk.i64_in _ (by omega)
      obtain ⟨la, hla⟩ : ∃ f, (((j : Nat) : Int) == (q : Int) - 1) = f := ⟨_, rfl⟩
      have hff : f = decide (j = 0) := by rw [← hf, Bool.eq_iff_iff, beq_iff_eq, decide_eq_true_eq]; omega
      have hll : la = decide (j + 1 = all.length) := by rw [← hla, Bool.eq_iff_iff, beq_iff_eq, decide_eq_true_eq]; have := HQ.out; omega
      have hT := fun w => geomTurn_any ax ay sx sy lx ly w
      obtain ⟨tu, htu⟩ : ∃ t, turnB ⟨ax, ay⟩ ⟨sx, sy⟩ ⟨lx, ly⟩ = t := ⟨_, rfl⟩
      rw [htu] at hT
      have HU : Hid (f = false → u7 = .int .i64 (ub0 : Int) ∧ u8 = .int .i64 (db0 : Int)) := Lib.hid fun h => by
        rcases hud with ⟨h0, _⟩ | ⟨_, h1, h2, _⟩
        · rw [hff, h0] at h; cases h
        · exact ⟨h1, h2⟩
      have HUF : Hid (f = false → LeafIn N.length P.length ⟨N0, P0, ub0, db0⟩ ub0 ∧ LeafIn N.length P.length ⟨N0, P0, ub0, db0⟩ db0) := Lib.hid fun h => by
        rcases hud with ⟨h0, _⟩ | ⟨_, _, _, h1, h2⟩
        · rw [hff, h0] at h; cases h
        · exact ⟨h1, h2⟩
      have HN0 := Lib.hid hn0
      have HM0 := Lib.hid hm0
      have HX := Lib.hid hX
      have HI := Lib.hid hI
      have HUD := Lib.hid hud
      have HJ := Lib.hid hj
      have HFF := Lib.hid hff
      have HLL := Lib.hid hll
      have HTU := Lib.hid htu
      have HDROP := Lib.hid hdrop
      have HALL := Lib.hid hn
      have HXN := Lib.hid hXn
      clear hn0 hm0 hX hI hud hj hff hll htu hdrop hn hXn hp0 hon
      have tk0 : True := trivial
      go_upto_region 10 with (guard_target =~ wpList _ _ _ (_ :: _) _ _; (first | (guard_target =~ wpList _ _ _ (Oper.mk _ (.load _ _) _ _ _ _ :: _) _ _; refine BigFrame.wpList_want rfl (fun K hK => ?_); (first | (refine o_load (v := ?_) (r := ?_) rfl rfl H ?_ ?_ ?_ (hK _ _ ?_); rotate_left 2; (with_reducible assumption); (repeat first | exact .head _ | apply List.Mem.tail); (focus (intro _; simp; done))) | (refine o_loadC (v := ?_) (row := ?_) rfl rfl H ?_ ?_ ?_ (hK _ _ ?_); rotate_left 2; (repeat first | exact .head _ | apply List.Mem.tail); (exact rfl); (focus (intro _; simp; done))) | (refine o_loadN (cs := ?_) (r := ?_) rfl rfl H ?_ ?_ ?_ ?_ (hK _ _ ?_); rotate_left 2; (with_reducible assumption); (repeat first | exact .head _ | apply List.Mem.tail); (focus (intro _; simp; done)); (focus (intro _; simp; done)))); clear hK K) | (guard_target =~ wpList _ _ _ (Oper.mk _ (.store _ _ _) _ _ _ _ :: _) _ _; refine BigFrame.wpList_want rfl (fun K hK => ?_); refine o_store (l' := ?_) (row := ?_) rfl rfl H rfl ?_ ?_ ?_ ?_ (fun w3 H2 => hK _ _ ?_); rotate_left 2; (exact r0); (focus (intro _; simp [Act.eval, Value.cells]; done)); (focus (simp [Act.eval, Value.cells]; done)); (exact rfl); clear hK K; clear H; (try clear w2); revert w3; intro w2 H; simp [Act.eval, Value.cells, setL, List.getD] at H) | ((guard_target =~ wpList _ _ _ (Oper.mk _ (.alloc _) _ _ _ _ :: _) _ _; refine BigFrame.wpList_want rfl (fun K hK => ?_); refine o_alloc (z := ?_) rfl ?_ H rfl (fun w3 b2 he H2 => hK _ _ ?_); rotate_left 1; (focus (intro _; simp; with_reducible exact rfl))); clear hK K he; clear H; (try clear w2); revert w3; intro w2 H; simp [Act.eval, Value.cells, setL, List.getD] at H; (clear tk0; rename Nat => b11))); simp only [Act.put, List.setIfInBounds_toArray, List.set_cons_succ, List.set_cons_zero])
      (replace H:Own _ _ _ (Res.cells b5 _ :: _) := H.front5)
      (replace H:Own _ _ _ (Res.grow 121 _ _ _ _ :: _) := H.front4)
      (replace H:Own _ _ _ (Res.grow 127 _ _ _ _ :: _) := H.front4)
      (replace H:Own _ _ _ (Res.cells bx _ :: _) := H.front4)
      (replace H:Own _ _ _ (Res.cells b11 _ :: _) := H.front4)
      rw [then_then]
      refine put_u (ub := ub0) (db := db0) (f := f) (tu := tu) HTU.out (fun h => (HU.out h).1) (by omega) (by omega) HN0.out HM0.out ?_ (by assumption) ?_ H
      · intro c a d v w h; cases d <;> exact h
      intro y67 y68 y69 y70 y71 y72 y73 y74 y75 y76 y77 y78 y79 y80 y81 y82 y83 y84 y85 y86 y87 y88 y89 y90 y91 y92 y93 y94 y95 y96 y97 y98 y99 y100 y101 y102 y103 y104 y105 y106 y107 w4 X1 dn dp cn cp hX1 H
      dsimp only
      have LU := fun (X2 : PSt) (c2 : Bool) (t2 : Tz) => two_leaves (X2 := X2) (c2 := c2) (t2 := t2) (f := f) (HDROP.out ▸ HI.out) (HUF.out) hX1
      have hd1 := (LU _ false ⟨0, 0, false, false, ⟨0, 0⟩, ⟨0, 0⟩⟩ rfl).2.2.2.2.2.2.2.1
      have hb1 := (LU _ false ⟨0, 0, false, false, ⟨0, 0⟩, ⟨0, 0⟩⟩ rfl).2.2.1
      have hc1 := (LU _ false ⟨0, 0, false, false, ⟨0, 0⟩, ⟨0, 0⟩⟩ rfl).2.2.2.1
      simp only at hd1 hb1 hc1
      rw [← HN0.out] at hb1
      rw [← HM0.out] at hc1
      have HLU := Lib.hid LU
      have HX1 := Lib.hid hX1
      clear LU hX1
      obtain ⟨N1, P1, ub1, db1⟩ := X1
      simp only [xB, nG, pG] at H hd1 hb1 hc1
      obtain ⟨nn1, hn1⟩ : ∃ n, n = N1.length := ⟨_, rfl⟩
      obtain ⟨mm1, hm1⟩ : ∃ n, n = P1.length := ⟨_, rfl⟩
      rw [← hn1] at H hb1
      rw [← hm1] at H hc1
      have HN1 := Lib.hid hn1
      have HM1 := Lib.hid hm1
      have HD1 := Lib.hid hd1
      clear hn1 hm1 hd1
      go_upto_region 14 with (first | fail)
      rw [then_then]
      refine put_d (ub := ub1) (db := db1) (f := f) (tu := tu) HTU.out (fun h => by rw [HD1.out]; exact (HU.out h).2) (by omega) (by omega) HN1.out HM1.out ?_ (by assumption) ?_ H
      · intro c a d v w h; cases d <;> exact h
      intro y108 y109 y110 y111 y112 y113 y114 y115 y116 y117 y118 y119 y120 y121 y122 y123 y124 y125 y126 y127 y128 y129 y130 y131 y132 y133 y134 y135 y136 y137 y138 y139 y140 y141 y142 y143 y144 y145 y146 y147 y148 w5 X2 dn dp cn cp hX2 H
      dsimp only
      obtain ⟨l1, l2, -, -, hb2, hc2, hb3, -, hold⟩ := HLU.out _ _ _ hX2
      obtain ⟨N2, P2, ub2, db2⟩ := X2
      simp only at l1 l2 hb2 hc2 hb3 hold
      rw [← HN1.out] at hb2
      rw [← HM1.out] at hc2
      rw [← HN0.out] at hb3
      obtain ⟨⟨pu, p1, h1, h3, -⟩, -⟩ := l1
      obtain ⟨⟨pd, p2, h2, h4, -⟩, -⟩ := l2
      simp only at h1 h2 h3 h4
      have h6 := hold n (by rw [← HM0.out]; exact hnm)
      rw [HXN.out] at h6
      have eu := congrArg PSt.u hX2
      rw [loS_u] at eu
      simp only at eu
      rw [eu] at h1
      have HEU := Lib.hid eu
      clear eu
      have HX2 := Lib.hid hX2
      clear hX2 hold
      refine put_tK (pu := pu) (pd := pd) (p1 := p1) (p2 := p2) (by assumption) (by omega) (by omega) h1 h2 h3 h4 h6 (by omega) ?_ ?_ H
      · intro c a d v w h; cases d <;> exact h
      intro y14 y16 y17 y18 y19 y20 y149 y150 y151 y152 y153 y154 y155 y156 y157 y158 y159 y160 y161 y162 y163 y164 y165 y166 y167 y168 y169 y170 y171 y172 y173 y174 y175 y176 y177 y178 y179 y180 y181 y182 y183 y184 y185 y186 y187 y188 y189 y190 y191 y192 y193 y194 y195 y196 y197 y198 y199 y200 y201 y202 y203 y204 y205 y206 y207 y208 y209 y210 y211 y212 y213 y214 y215 y216 y217 y218 y219 y220 y221 y222 y223 y224 y225 y226 y227 y228 y229 y230 y231 y232 y233 y234 y235 y236 y237 y238 y239 y240 y241 y242 y243 y244 y245 y246 y247 y248 y249 y250 y251 y252 y253 y254 y255 y256 y257 y258 y259 y260 y261 y262 y263 y264 w6 Y dn dp cn cp hY H
      dsimp only [Exit.inBlock, Exit.then]
      have HY := Lib.hid hY
      have HH := Lib.hid H
      clear hY h1 h2 h3 h4 h6
      go_wp2_with (first | fail)
      (replace H:Own _ _ _ (Res.cells b5 _ :: _) := H.front3)
      (replace H:Own _ _ _ (Res.grow 3 _ _ _ _ :: _) := H.front4)
      (replace H:Own _ _ _ (Res.grow 121 _ _ _ _ :: _) := H.front4)
      (replace H:Own _ _ _ (Res.grow 127 _ _ _ _ :: _) := H.front4)
      (replace H:Own _ _ _ (Res.cells bx _ :: _) := H.front4)
      go_roundg (gk - 1)
      case measure => omega
      case rel =>
        have hj1 : q - (gk - 1) = j + 1 := by have := HJ.out; omega
        rw [hj1]
        have hYR : Y = roundS id ⟨⟨ax, ay⟩, ⟨sx, sy⟩⟩ f la n ⟨N0, P0, ub0, db0⟩ := by
          unfold roundS
          simp only [HXN.out, Option.getD_some, HTU.out, Int.toNat_natCast]
          rw [← HX1.out, ← HX2.out, HEU.out]
          exact HY.out
        have hnd : n ∉ all.drop (j + 1) := by
          have := HND.out.sublist (List.drop_sublist j all)
          rw [HDROP.out] at this
          exact (List.nodup_cons.1 this).1
        have hu1 : Y.u = ub1 ∧ Y.d = db2 := by rw [HY.out]; exact tail_u
        have R := roundS_inv (id := id) (s := ⟨⟨ax, ay⟩, ⟨sx, sy⟩⟩) (f := f) (la := la) (HDROP.out ▸ HI.out) hnd HUF.out
        rw [← hYR] at R
        obtain ⟨r1, r2, r3, r4, r5⟩ := R
        simp only at r4 r5
        refine ⟨by omega, by simp, Y, dn, dp, cn, cp, ?_, r1, ?_, ?_, .inr ⟨Nat.succ_pos _, ?_, ?_, r2, r3⟩, H⟩
        · rw [hYR]
          show _ = roundS id _ _ _ _ _
          rw [← HFF.out, ← HLL.out, HALL.out, ← HX.out]
          rfl
        · have := HN0.out
          show _ ≤ N.length + 6 * (j + 1)
          omega
        · have := HM0.out
          show _ ≤ P.length + 6 * (j + 1)
          omega
        · rw [hu1.1]
        · rw [hu1.2]
    · obtain rfl : gk = 0 := by omega
      rw [Nat.sub_zero] at hX
      have HX := Lib.hid hX
      clear hX
      go_wp2_with (first | fail)
      first | go_ret | go_end0
      refine ⟨rfl, all, HC.out, dn, dp, cn, cp, ?_⟩
      rw [← HS2.out, ← HE2.out, ← HQ.out, ← HX.out]
      (replace H:Own _ _ _ (mEnd _ _ :: _) := H.front6)
      (replace H:Own _ _ _ (mSeg _ _ :: _) := H.front6)
      (replace H:Own _ _ _ (Res.grow 121 _ _ _ _ :: _) := H.front4)
      (replace H:Own _ _ _ (Res.grow 127 _ _ _ _ :: _) := H.front4)
      (replace H:Own _ _ _ (Res.cells bx _ :: _) := H.front4)
      exact (H.sub (by repeat first | exact List.Sublist.refl _ | apply List.Sublist.cons_cons | apply List.Sublist.cons))
end Go.Proofs.Ytlhmjhildlnokaa
