/-
  The walks of croftlaw21's Order and same.
-/
import Derived.Test.YtlhmjhildlnokaaGreatM403360d4
import Derived.Test.YtlhmjhildlnokaaGreatMd6b25c4b
import Derived.Test.YtlhmjhildlnokaaGreatM4a50d798
import Derived.Test.YtlhmjhildlnokaaGreatM01095c5b
import Derived.Test.YtlhmjhildlnokaaGreatM0d4adf42
namespace Go.Proofs.YtlhmjhildlnokaaGreat
set_option linter.unusedVariables false
set_option linter.unusedSimpArgs false
open Go.RowKit Go.Sort Go.Shelf
def FindP (vs : List Vt) (es : List Eg) (os : List Int) (X : IxS) (q : Pt) (s1 s2 f : Int) : Prop :=
  (inB q = false ∧ s1 = 0 ∧ s2 = 0 ∧ f = 5) ∨
  (inB q = true ∧ EndS (segsOf vs es os).reverse q ∧ s1 = 0 ∧ s2 = 0 ∧ f = 7) ∨
  (inB q = true ∧ ¬ EndS (segsOf vs es os).reverse q ∧ f = 0 ∧
    ((∃ sg, (s1, sg) ∈ (segsOf vs es os).reverse ∧ (lnS sg).spans (Xr q) ∧ Yr q = (lnS sg).at (Xr q) ∧ s2 = 0) ∨
     (∃ (i : Nat) (p : Pc), X.P[i]? = some p ∧ p.g = false ∧ InT (segsOf vs es os).reverse p.t (Xr q) (Yr q) ∧ s1 = 0 ∧ s2 = p.t.bot)))
theorem xfind_any {B : Nat} {w0 w : World} {l : List Res} {bx ks ke cn cp dn dp : Nat} {vs : List Vt} {es : List Eg} {os : List Int} {X : IxS} (HR : RightP vs es) (I : BldI vs es os X) (h40 : os.length ≤ 40) (x y : Int) (H : Own B w0 w (xL bx ks ke cn cp dn dp X l)) :
    Calls Tryz.prog 10 #[.pointer (some ⟨bx, 0, none⟩), pV x y] w fun e w' => ∃ s1 s2 f, e = .returned (.tuple #[spV s1 s2, .int .i64 f]) ∧ FindP vs es os X ⟨x, y⟩ s1 s2 f ∧ Own B w0 w' (xL bx ks ke cn cp dn dp X l) := by
  cases hin : inB ⟨x, y⟩
  · refine (findR_any hin H).mono ?_
    rintro e w' ⟨rfl, H2⟩
    exact ⟨0, 0, 5, rfl, .inl ⟨hin, rfl, rfl, rfl⟩, H2⟩
  cases he : (getA X.E ⟨x, y⟩).getD false
  · have hE : ¬ EndS (segsOf vs es os).reverse ⟨x, y⟩ := fun g => by
      have := (I.puts.ends ⟨x, y⟩).2 g
      rw [he] at this; cases this
    have T := I.ti HR
    have hS : X.S = (segsOf vs es os).reverse := I.puts.S_
    obtain ⟨hP, hN, _⟩ := bld_sizes I h40
    rcases T.find (inP_b hin) hE with ⟨k, id, sg, h1, h2, h3, h4⟩ | ⟨k, i, p, h1, h2, h3, h4, h5⟩
    · refine (find_any (r := .on id) hin he (by rw [hS]; exact h4) trivial hN hP H).mono ?_
      rintro e w' ⟨rfl, H2⟩
      exact ⟨id, 0, 0, rfl, .inr (.inr ⟨hin, hE, rfl, .inl ⟨sg, h1, h2, h3, rfl⟩⟩), H2⟩
    · refine (find_any (r := .leaf p.n.toNat) hin he (by rw [hS]; exact h5) ⟨i, p, h3, h1⟩ hN hP H).mono ?_
      rintro e w' ⟨rfl, H2⟩
      refine ⟨0, p.t.bot, 0, ?_, .inr (.inr ⟨hin, hE, rfl, .inr ⟨i, p, h1, h2, h4, rfl, rfl⟩⟩), H2⟩
      simp [spotOf, idN, h3, lfN, h1]
  · refine (findE_any hin he (l := nG dn X.N.length cn X.N :: pG dp X.P.length cp X.P :: mSeg ks X.S :: l) (H.perm (.cons _ ?_))).mono ?_
    · exact (List.perm_middle (l₁ := [nG dn X.N.length cn X.N, pG dp X.P.length cp X.P, mSeg ks X.S]) (a := mEnd ke X.E) (l₂ := l)).symm
    rintro e w' ⟨rfl, H2⟩
    exact ⟨0, 0, 7, rfl, .inr (.inl ⟨hin, (I.puts.ends ⟨x, y⟩).1 he, rfl, rfl, rfl⟩), H2.perm (.cons _ (List.perm_middle (l₁ := [nG dn X.N.length cn X.N, pG dp X.P.length cp X.P, mSeg ks X.S]) (a := mEnd ke X.E) (l₂ := l)))⟩
theorem FindP.same {vs : List Vt} {es : List Eg} {os os' : List Int} {X Y : IxS} {q : Pt} {s1 s2 f t1 t2 g : Int} (HR : RightP vs es) (I : BldI vs es os X) (J : BldI vs es os' Y) (hp : (segsOf vs es os).reverse.Perm (segsOf vs es os').reverse) (h : FindP vs es os X q s1 s2 f) (h' : FindP vs es os' Y q t1 t2 g) : s1 = t1 ∧ s2 = t2 ∧ f = g := by
  have hE : EndS (segsOf vs es os).reverse q ↔ EndS (segsOf vs es os').reverse q := endS_perm hp
  rcases h with ⟨a1, rfl, rfl, rfl⟩ | ⟨a1, a2, rfl, rfl, rfl⟩ | ⟨a1, a2, rfl, h⟩
  · rcases h' with ⟨b1, rfl, rfl, rfl⟩ | ⟨b1, _⟩ | ⟨b1, _⟩
    · exact ⟨rfl, rfl, rfl⟩
    · rw [a1] at b1; cases b1
    · rw [a1] at b1; cases b1
  · rcases h' with ⟨b1, _⟩ | ⟨b1, b2, rfl, rfl, rfl⟩ | ⟨b1, b2, _⟩
    · rw [a1] at b1; cases b1
    · exact ⟨rfl, rfl, rfl⟩
    · exact absurd (hE.1 a2) b2
  · rcases h' with ⟨b1, _⟩ | ⟨b1, b2, _⟩ | ⟨b1, b2, rfl, h'⟩
    · rw [a1] at b1; cases b1
    · exact absurd (hE.2 b2) a2
    · have S1 := TI.same (I.ti HR) (J.ti HR) hp (inP_b a1)
      have S2 := TI.same (J.ti HR) (I.ti HR) hp.symm (inP_b a1)
      rcases h with ⟨sg, c1, c2, c3, rfl⟩ | ⟨i, p, c1, c2, c3, rfl, rfl⟩
      · rcases h' with ⟨sg', d1, d2, d3, rfl⟩ | ⟨i, p, d1, d2, d3, rfl, rfl⟩
        · exact ⟨S1.1 c1 d1 c2 d2 c3 d3, rfl, rfl⟩
        · exact (S1.2.1 c1 c2 c3 d1 d2 d3).elim
      · rcases h' with ⟨sg', d1, d2, d3, rfl⟩ | ⟨i', p', d1, d2, d3, rfl, rfl⟩
        · exact (S2.2.1 d1 d2 d3 c1 c2 c3).elim
        · exact ⟨rfl, by rw [S1.2.2 c1 c2 c3 d1 d2 d3], rfl⟩
set_option maxRecDepth 100000 in
theorem few21_any (A A2 : Option Addr) (n m c c2 : Nat) (w : World) :
  Calls Tryz.prog 5 #[.agg #[.slice A n c, .slice A2 m c2]] w fun e w' => e = .returned (.bool (decide (n ≤ 40) && decide (m ≤ 40))) ∧ Below w.heap.size w w' := by
 have H := Own.start w
 obtain ⟨v, hv⟩ : ∃ v, (decide (n ≤ 40) && decide (m ≤ 40)) = v := ⟨_, rfl⟩
 have HV := Lib.hid hv
 rw [hv]; clear hv
 go_enter Tryz.func5, Tryz.ntmps5
 have tk0 : True := trivial
 go_wp2_with (first
  | go_big_skip
  | (guard_target = wpList _ _ _ (_ :: _) _ _; (first | (refine a15dc6b3 ?_) | (refine a9475ade ?_; intro b2; clear H; (try clear w2); intro w2 H; (clear tk0; rename Nat => b1)))))
 all_goals
  go_ret
  exact ⟨ret_b (by rw [← HV.out, Bool.eq_iff_iff]; simp only [Bool.and_eq_true, decide_eq_true_eq, Bool.false_eq_true, false_iff]; omega), H.below⟩
set_option maxRecDepth 100000 in
theorem plain21_any (A A2 : Option Addr) (n m c c2 : Nat) (w : World) :
  Calls Tryz.prog 7 #[.agg #[.slice A n c, .slice A2 m c2]] w fun e w' => e = .returned (.agg #[.slice A n c, .slice A2 m c2]) ∧ Below w.heap.size w w' := by
 have H := Own.start w
 go_enter Tryz.func7, Tryz.ntmps7
 have tk0 : True := trivial
 have tk1 : True := trivial
 go_wp2_with (guard_target = wpList _ _ _ (_ :: _) _ _; (first | (refine a15dc6b3 ?_) | (refine a181aa22 ?_; clear H; (try clear w2); intro w2 H) | (refine a9475ade ?_; intro b2; clear H; (try clear w2); intro w2 H; (first | (clear tk0; rename Nat => b1) | (clear tk1; rename Nat => b2)))))
 have hr := H.loadVarN (P := Tryz.prog) (ty := 35) m0 (by kernel_rfl) (by kernel_rfl)
 exact bodyPost_ret (v := .agg #[.slice A n c, .slice A2 m c2]) (by simp [results, Tryz.results7, asAddr, hr]) rfl ⟨rfl, H.below⟩
def vs21 : List Vt := [⟨1, ⟨0, 0⟩⟩, ⟨2, ⟨4, 0⟩⟩]
def es21 : List Eg := [⟨1, 1, 2⟩]
theorem vR21 : vR vs21 = [.int .i64 1, .int .i64 0, .int .i64 0, .int .i64 2, .int .i64 4, .int .i64 0] := rfl
theorem eR21 : eR es21 = [.int .i64 1, .int .i64 1, .int .i64 2] := rfl
theorem aw21_b : buildB vs21 es21 [1] = true := by decide +kernel
def sg21 : Sg := ⟨⟨0, 0⟩, ⟨4, 0⟩⟩
def X21 : PSt := roundsS 1 sg21 [0] 1 ⟨[nd0], [pc0], 0, 0⟩
def ix21 : IxS := ⟨X21.N, X21.P, [(1, sg21)], [(⟨4, 0⟩, true), (⟨0, 0⟩, true)]⟩
theorem aw21_c : crossL [pc0] [] sg21 1 = [0] := by decide +kernel
theorem aw21_s : (segsOf vs21 es21 [1]).reverse = [(1, sg21)] := by decide +kernel
theorem aw21_x {X : IxS} (I : BldI vs21 es21 [1] X) : X = ix21 := by
 have h := I.puts
 rw [aw21_s] at h
 cases h with
 | put h hid hp =>
  cases h
  obtain ⟨all, h1, h2, h3, h4, h5⟩ := hp
  have e : all = [0] := by
   have := h1.1
   rw [show ix0.P.length = 1 from rfl, show ix0.P = [pc0] from rfl, show ix0.S = [] from rfl, aw21_c] at this
   exact List.perm_singleton.1 this
  subst e
  obtain ⟨N, P, S, E⟩ := X
  simp only at h2 h3 h4 h5
  rw [h2, h3, h4, h5]
  rfl
theorem aw21_l : (liveT X21.P).length = 4 := by decide +kernel
theorem aw21_d : DescZ ix21.N ix21.S ⟨2, 1⟩ 3 0 (.leaf 1) := by
 refine .ptR (d := ⟨1, 0, ⟨0, 0⟩, 5, 6⟩) (m := 6) rfl rfl (by decide +kernel) rfl ?_
 refine .ptL (d := ⟨1, 0, ⟨4, 0⟩, 3, 4⟩) (m := 3) rfl rfl (by decide +kernel) rfl ?_
 refine .lnU (d := ⟨2, 1, ⟨0, 0⟩, 1, 2⟩) (m := 1) rfl rfl (by decide +kernel) rfl ?_
 exact .leaf (d := ⟨0, 1, ⟨0, 0⟩, 0, 0⟩) rfl rfl
theorem aw21_e : (getA ix21.E ⟨2, 1⟩).getD false = false := by decide +kernel
theorem aw21_ok : LeafOK ix21.N ix21.P (.leaf 1) := ⟨1, ⟨⟨0, 1, true, true, ⟨0, 0⟩, ⟨4, 0⟩⟩, 1, false⟩, rfl, rfl⟩
theorem aw21_r : spotOf ix21.N ix21.P (.leaf 1) = spV 0 1 := rfl
set_option maxRecDepth 100000 in
set_option maxHeartbeats 8000000 in
theorem awake21_any (w : World) :
  Calls Tryz.prog 4 #[] w fun e w' => e = .returned (.bool true) ∧ Below w.heap.size w w' := by
 have H := Own.start w
 obtain ⟨F0, hno⟩ : ∃ F0 : Nat → Prop, ∀ k, ¬ F0 k := ⟨fun _ => False, fun _ h => h⟩
 have h1 : ∀ w A A2 A3, Sl F0 w A (vR vs21) → Sl F0 w A2 (eR es21) → Sl F0 w A3 (oR [1]) → Calls Tryz.prog 6 #[.agg #[.slice A 2 2, .slice A2 1 1], .slice A3 1 1] w fun e w' => ∃ bx ks ke cn cp dn dp, e = .returned (.tuple #[.pointer (some ⟨bx, 0, none⟩), .int .i64 0]) ∧ Own w.heap.size w w' (xL bx ks ke cn cp dn dp ix21 []) := by
  intro w A A2 A3 h1 h2 h3
  refine (build_any vs21 es21 [1] A A2 A3 2 1 1 2 1 1 F0 w rfl rfl rfl h1 h2 h3 (fun k h => absurd h (hno k)) (by omega) (by omega) (by omega) (by unfold maxLen; omega)).mono ?_
  rintro e w' (⟨h, _⟩ | ⟨_, X, bx, ks, ke, cn, cp, dn, dp, rfl, I, H⟩)
  ·rw [aw21_b] at h; cases h
  ·rw [aw21_x I] at H
   exact ⟨bx, ks, ke, cn, cp, dn, dp, rfl, H⟩
 rw [vR21, eR21, show oR [1] = [.int .i64 1] from rfl] at h1
 have h2 := fun {B w0 w l bx ks ke cn cp dn dp} H => find_any (B := B) (w0 := w0) (w := w) (l := l) (bx := bx) (ks := ks) (ke := ke) (cn := cn) (cp := cp) (dn := dn) (dp := dp) (x := 2) (y := 1) (by decide) aw21_e aw21_d aw21_ok (by decide +kernel) (by decide +kernel) H
 rw [aw21_r] at h2
 have h3 := fun {B w0 w l bx ks ke cn cp dn dp} H => tall_any (B := B) (w0 := w0) (w := w) (l := l) (bx := bx) (ks := ks) (ke := ke) (cn := cn) (cp := cp) (dn := dn) (dp := dp) (n := ix21.N.length) (P := ix21.P) rfl (by decide +kernel) H
 have h4 : ∀ (k : Nat) L, k = L.length → AllP ix21.P L → ((k : Int) == 4) = true := fun k L hk h => by rw [hk, h.1.length_eq.trans aw21_l]; rfl
 go_enter Tryz.func4, Tryz.ntmps4
 have tk0 : True := trivial
 have tk1 : True := trivial
 have tk2 : True := trivial
 have tk3 : True := trivial
 have tk4 : True := trivial
 go_wp2_with (first
  | (go_at_call 6; (with_reducible refine (h1 _ _ _ _ (H.giveCells m3 (fun k h => absurd h (hno k)) 0 rfl) (H.giveCells m2 (fun k h => absurd h (hno k)) 0 rfl) (H.giveCells m0 (fun k h => absurd h (hno k)) 0 rfl)).mono ?_); rintro e w3 ⟨bx, ks, ke, cn, cp, dn, dp, rfl, H2⟩; replace H := H.join H2 rfl; clear H2; simp only [xL, List.cons_append, List.nil_append] at H; dsimp only)
  | (go_at_call 10; replace H:Own _ _ _ (mEnd _ _ :: _) := aF; replace H:Own _ _ _ (mSeg _ _ :: _) := aF; replace H:Own _ _ _ (Res.grow 80 _ _ _ _ :: _) := aF; replace H:Own _ _ _ (Res.grow 75 _ _ _ _ :: _) := aF; replace H:Own _ _ _ (Res.cells bx _ :: _) := aF; (with_reducible refine (h2 H).mono ?_); rintro e w3 ⟨rfl, H2⟩; replace H := H2; clear H2; dsimp only)
  | (go_at_call 12; replace H:Own _ _ _ (Res.grow 80 _ _ _ _ :: _) := aF; replace H:Own _ _ _ (Res.cells bx _ :: _) := aF; (with_reducible refine (h3 H).mono ?_); rintro e w3 ⟨A9, k9, c9, L9, rfl, hk9, hA9, H2⟩; replace H := H2; clear H2; have hk4 := h4 _ _ hk9 hA9; clear hk9; dsimp only)
  | (guard_target = wpList _ _ _ (_ :: _) _ _; (first | (refine a15dc6b3 ?_) | (refine a181aa22 ?_; clear H; (try clear w2); intro w2 H) | (refine a9475ade ?_; intro b2; clear H; (try clear w2); intro w2 H; (first | (clear tk0; rename Nat => b1) | (clear tk1; rename Nat => b2) | (clear tk2; rename Nat => b5) | (clear tk3; rename Nat => b6) | (clear tk4; rename Nat => b7))))))
 go_ret
 exact ⟨rfl, H.below⟩
end Go.Proofs.YtlhmjhildlnokaaGreat
namespace Go.Proofs.YtlhmjhildlnokaaGreat
set_option linter.unusedVariables false
set_option linter.unusedSimpArgs false
open Go.RowKit
end Go.Proofs.YtlhmjhildlnokaaGreat
namespace Go.Proofs.YtlhmjhildlnokaaGreat
set_option linter.unusedVariables false
set_option linter.unusedSimpArgs false
open Go.RowKit Go.Sort Go.Shelf
theorem law21ox1 {P Q : Prop} (k : Q) (h : Hold Q → P := by (intro kk; guard_target = wpList _ _ _ (Oper.mk _ (.call { callee := .builtin .append, args := _, argTypes := _ }) _ _ _ _ :: _) _ _; (with_reducible refine BigFrame.wpList_want ?_ (fun K hK => ?_)); exact rfl; refine o_append (row := ?_) (n := ?_) (xs := ?_) (l' := ?_) infoIt rfl rfl rfl H ?_ rfl ?_ ?_ (by kernel_rfl) rfl (by decide) ?_ ?_ ?_ (fun v2 w3 H2 hn => hK _ _ ?_); rotate_left 4; (repeat first | exact .head _ | apply List.Mem.tail); (focus (simp; done)); (focus (intro _; (exact r1))); exact rfl; exact (by unfold maxLen; omega); exact (by omega); clear hK K hn; simp only [List.take_succ_cons, List.take_zero, Nat.one_mul] at H2; simp only [Act.put, List.setIfInBounds_toArray, List.set_cons_succ, List.set_cons_zero]; revert H2; revert w3; revert v2; exact kk.out)) : P := h ⟨k⟩
theorem law21ox2 {P Q : Prop} (k : Q) (h : Hold Q → P := by (intro kk; guard_target = wpList _ _ _ (Oper.mk _ (.store _ _ _) _ _ _ _ :: _) _ _; (with_reducible refine BigFrame.wpList_want ?_ (fun K hK => ?_)); exact rfl; (refine o_storeG (e := ?_) (size := ?_) (n := ?_) (cap := ?_) (xs := ?_) (l' := ?_) rfl rfl H rfl ?_ ?_ ?_ ?_ (fun w3 H2 => hK _ _ ?_); rotate_left 6; (exact r0); (focus (intro _; (simp [Act.eval, Value.cells, List.getD, X0, X1, X2, X3]; done))); (focus ((try simp [Act.eval, Value.cells, List.getD, X0, X1, X2, X3]); omega)); (exact rfl); clear hK K; (try simp [Act.eval, List.getD, X0, X1, X2, X3] at H2); (try simp [Value.cells, setL, X0, X1, X2, X3] at H2)); simp only [Act.put, List.setIfInBounds_toArray, List.set_cons_succ, List.set_cons_zero, X0, X1, X2, X3]; revert H2; revert w3; exact kk.out)) : P := h ⟨k⟩
theorem law21og5 {P Q : Prop} (k : Q) (h : Hold Q → P := by (intro kk; (guard_target = wpList _ _ _ (Oper.mk _ (.store _ _ _) _ _ _ _ :: _) _ _; exact law21ox2 kk.out))) : P := h ⟨k⟩
theorem law21or1 {P Q : Prop} (k : Q) (h : Hold Q → InR 9 0 (.q 0 (.q 1 (.q 2 (.q 3 (.q 4 (.q 5 (.q 6 (.q 7 (.q 8 (.q 9 (.q 10 (.q 11 (.q 12 (.q 13 .nil)))))))))))))) P := by exact aRC0) : P := h ⟨k⟩
def uR (l : List Int) : List Value := l.map (Value.int .u8)
theorem uR_get {l : List Int} {j : Nat} {x : Int} (h : l[j]? = some x) : (uR l)[j]? = some (.int .u8 x) := by simp [uR, h]
theorem oR_len (l : List Int) : (oR l).length = l.length := by simp [oR]
theorem oR_app (l m : List Int) : oR (l ++ m) = oR l ++ oR m := by simp [oR]
theorem oR_one (x : Int) : oR [x] = [.int .i64 x] := rfl
theorem oR_set (l : List Int) (i : Nat) (x : Int) : (oR l).set i (.int .i64 x) = oR (l.set i x) := by simp [oR]
theorem oR_at {l : List Int} {j : Nat} {x : Int} (h : l[j]? = some x) : ((oR l).drop j).take 1 = [.int .i64 x] := by
 obtain ⟨h1, h2⟩ := List.getElem?_eq_some_iff.1 (oR_get h)
 rw [List.drop_eq_getElem_cons h1, h2]; rfl
theorem set_self {l : List Int} {a : Nat} {x : Int} (ha : l[a]? = some x) : l.set a x = l := by
 apply List.ext_getElem?
 intro i
 rw [List.getElem?_set]
 split
 ·rename_i h; subst h; split
  ·exact ha.symm
  ·rename_i h; exact absurd (List.getElem?_eq_some_iff.1 ha).1 h
 ·rfl
theorem swap_perm {l : List Int} {a b : Nat} {x y : Int} (ha : l[a]? = some x) (hb : l[b]? = some y) : ((l.set a y).set b x).Perm l := by
 by_cases hxy : x = y
 ·subst hxy
  rw [set_self ha, set_self hb]
 ·have e : a ≠ b := by
   rintro rfl
   rw [ha] at hb
   injection hb with hb
   exact hxy hb
  have hal := (List.getElem?_eq_some_iff.1 ha).1
  have hbl := (List.getElem?_eq_some_iff.1 hb).1
  rw [List.perm_iff_count]
  intro z
  rw [List.count_set (by simpa using hbl), List.count_set hal]
  have e1 : (l.set a y)[b]'(by simpa using hbl) = y := by
   rw [List.getElem_set_ne e]
   exact (List.getElem?_eq_some_iff.1 hb).2
  rw [e1, (List.getElem?_eq_some_iff.1 ha).2]
  have c1 : x = z → 0 < l.count z := fun h => List.count_pos_iff.2 (by rw [← h]; exact List.mem_of_getElem? ha)
  have c2 : y = z → 0 < l.count z := fun h => List.count_pos_iff.2 (by rw [← h]; exact List.mem_of_getElem? hb)
  by_cases h1 : x = z
  ·have h2 : y ≠ z := fun h => hxy (h1.trans h.symm)
   have := c1 h1
   simp [h1, h2]; omega
  ·by_cases h2 : y = z
   ·have := c2 h2
    simp [h1, h2]
   ·simp [h1, h2]
theorem ids_step {es : List Eg} {j : Nat} {i x y : Int} (h : es[j]? = some ⟨i, x, y⟩) : (es.take (j + 1)).map (·.id) = (es.take j).map (·.id) ++ [i] := by
 rw [List.take_add_one, h]; simp
set_option maxRecDepth 100000 in
set_option maxHeartbeats 16000000 in
theorem order21_any (vs : List Vt) (es : List Eg) (tu : List Int) (A A2 A3 : Option Addr) (n m q : Nat) (c c2 c3 : Nat) (F : Nat → Prop) (w : World) (hm : m = es.length) (hq : q = tu.length) (hs2 : Sl F w A2 (eR es)) (hs3 : Sl F w A3 (uR tu)) (hu : ∀ t ∈ tu, 0 ≤ t ∧ t < 256) (hl2 : m ≤ 40) (hlq : q ≤ 100) :
  Calls Tryz.prog 8 #[.agg #[.slice A n c, .slice A2 m c2], .slice A3 q c3] w fun e w' => ∃ B9 k c9 os, e = .returned (.slice B9 k c9) ∧ k = os.length ∧ os.Perm (es.map (·.id)) ∧ Own w.heap.size w w' [.grow 3 1 (.slice B9 k c9) k (oR os)] := by
 obtain ⟨b9, o9, H1, f9⟩ := (Own.start w).addSl (hs2.ro (by rfl))
 obtain ⟨b8, o8, H, f8⟩ := H1.addSl (hs3.ro (by rfl))
 clear hs2 hs3 H1
 have HM := Lib.hid hm
 have HQ := Lib.hid hq
 have HU := Lib.hid hu
 clear hm hq hu
 go_enter Tryz.func8, Tryz.ntmps8
 have tk0 : True := trivial
 go_wp2_with (guard_target = wpList _ _ _ (_ :: _) _ _; (refine a9475ade ?_; intro b2; clear H; (try clear w2); intro w2 H; (clear tk0; rename Nat => b1)))
 have H := H.grow_nil 3 1
 go_loopg [6, 5] m (fun k i u wr => k ≤ m ∧ i = .int .i64 ((m - k : Nat) : Int) ∧ Own w.heap.size w wr [.grow 3 1 u (m - k) (oR ((es.take (m - k)).map (·.id))), .cells b1 [.slice A n c, .slice A2 m c2], .rd A3 b8 o8 (uR tu), .rd A2 b9 o9 (eR es)])
 case atStart => exact ⟨Nat.le_refl _, by simp, by rw [Nat.sub_self]; exact H⟩
 case round =>
  clear H
  obtain ⟨hk, rfl, H⟩ := hrel
  by_cases hlt : 0 < gk
  ·obtain ⟨j, hj⟩ : ∃ j, m - gk = j := ⟨_, rfl⟩
   have hjl : j < m := by omega
   rw [hj] at H ⊢
   obtain ⟨i, x, y, he⟩ := eg_at es (by have := HM.out; omega : j < es.length)
   obtain rfl := H.rdAddr m3 (eR_pos he)
   have hp : (Res.rd (some ⟨b9, o9, none⟩) b9 o9 (eR es)).at b9 (o9 + j * 3) [.int .i64 i] := at_rdN (by
    have := flatN_sub (f := fun e : Eg => t3 e.id e.a e.b) (k := 3) (fun _ => rfl) he 0 1 (by omega)
    exact this)
   have hst := ids_step he
   generalize (es.take j).map (·.id) = D at H hst
   have HST := Lib.hid hst
   have HJ := Lib.hid hj
   clear he hst hj
   go_wp2_with (guard_target = wpList _ _ _ (_ :: _) _ _; (first | (refine law21ox1 ?_; intro v2; clear H; (try clear w2); intro w2 H) | (refine a15dc6b3 ?_) | (refine a9475ade ?_; intro b2; clear H; (try clear w2); intro w2 H)))
   go_roundg (gk - 1)
   case rel =>
    have e := show m - (gk - 1) = j + 1 by have := HJ.out; omega
    exact ⟨by omega, by rw [e]; simp, by rw [e, HST.out, oR_app, oR_one]; exact (aW H)⟩
   case measure => omega
  ·obtain rfl : gk = 0 := by omega
   rw [Nat.sub_zero, List.take_of_length_le (by have := HM.out; omega)] at H
   rw [Nat.sub_zero] at *
   obtain ⟨A5, c5, rfl⟩ := H.growForm m0
   go_wp2_with (guard_target = wpList _ _ _ (_ :: _) _ _; (refine a15dc6b3 ?_))
   go_loopg [7] q (fun k i wr => k ≤ q ∧ i = .int .i64 ((q - k : Nat) : Int) ∧ ∃ os, os.Perm (es.map (·.id)) ∧ Own w.heap.size w wr [.grow 3 1 (.slice A5 m c5) m (oR os), .cells b1 [.slice A n c, .slice A2 m c2], .rd A3 b8 o8 (uR tu), .rd A2 b9 o9 (eR es)])
   case atStart => exact ⟨Nat.le_refl _, by simp, _, .refl _, H⟩
   case round =>
    clear H
    obtain ⟨hk, rfl, os, hos, H⟩ := hrel
    have hol : os.length = m := by rw [hos.length_eq, List.length_map]; exact HM.out.symm
    by_cases hlt2 : 0 < gk
    ·obtain ⟨j, hj⟩ : ∃ j, q - gk = j := ⟨_, rfl⟩
     have hjl : j < q := by omega
     rw [hj]
     by_cases hm0 : 0 < m
     ·obtain ⟨t, ht⟩ : ∃ x, tu[j]? = some x := ⟨_, List.getElem?_eq_getElem (by have := HQ.out; omega)⟩
      have htb := HU.out t (List.mem_of_getElem? ht)
      obtain rfl := H.rdAddr m2 (Nat.lt_of_le_of_lt (Nat.zero_le _) (List.getElem?_eq_some_iff.1 (uR_get ht)).1)
      have hp := at_rd (A := some ⟨b8, o8, none⟩) (b := b8) (off := o8) (uR_get ht)
      obtain ⟨t', rfl⟩ : ∃ t' : Nat, t = (t' : Int) := ⟨t.toNat, by omega⟩
      obtain ⟨a, ha⟩ : ∃ a, j % m = a := ⟨_, rfl⟩
      obtain ⟨b, hb⟩ : ∃ a, t' % m = a := ⟨_, rfl⟩
      have hma : (j : Int) % (m : Int) = (a : Int) := by rw [← ha]; exact Int.natCast_emod _ _
      have hmb : (t' : Int) % (m : Int) = (b : Int) := by rw [← hb]; exact Int.natCast_emod _ _
      have hal : a < m := by rw [← ha]; exact Nat.mod_lt _ hm0
      have hbl : b < m := by rw [← hb]; exact Nat.mod_lt _ hm0
      obtain ⟨x, hx⟩ : ∃ x, os[a]? = some x := ⟨_, List.getElem?_eq_getElem (by omega)⟩
      obtain ⟨y, hy⟩ : ∃ x, os[b]? = some x := ⟨_, List.getElem?_eq_getElem (by omega)⟩
      obtain ⟨d5, c5', he⟩ := H.growSome m0 hm0 (by decide)
      injection he with hA h1 h2
      subst hA
      clear h1 h2
      have hpa : (Res.grow 3 1 (.slice (some ⟨d5, 0, none⟩) m c5) m (oR os)).at d5 a [.int .i64 x] := at_grow (oR_at hx)
      have hpb : (Res.grow 3 1 (.slice (some ⟨d5, 0, none⟩) m c5) m (oR os)).at d5 b [.int .i64 y] := at_grow (oR_at hy)
      have hlen : (oR os).length = m := by rw [oR_len]; exact hol
      have HPM := Lib.hid (swap_perm hx hy)
      have HOS := Lib.hid hos
      have HJ := Lib.hid hj
      clear ht ha hb hx hy hos hj hol
      have X0 := @hma
      have X1 := @hmb
      have X2 := @hlen
      have X3 := @zz
      go_wp2_with (first
       | (guard_target = Code.wp _ (Code.region 9 _ true) _ _ _; refine law21or1 ?_; clear H; (try clear w2); intro w2 H)
       | ((first | guard_target = wpList _ _ _ (_ :: _) _ _ | guard_target = wpTreeC _ _ _ _ _ _ _); (first | (refine ad78d842 ?_) | (refine law21og5 ?_; clear H; (try clear w2); intro w2 H) | (guard_target = wpTreeC _ _ _ Tr.nil _ _ _; refine treeC_nil H ?_; clear H; (try clear w2); intro w2 H))))
      go_roundg (gk - 1)
      case rel =>
       have e := show q - (gk - 1) = j + 1 by have := HJ.out; omega
       exact ⟨by omega, by rw [e]; simp, _, HPM.out.trans HOS.out, by rw [← oR_set, ← oR_set]; exact (aW H)⟩
      case measure => omega
     ·obtain rfl : m = 0 := by omega
      have HOS := Lib.hid hos
      have HOL := Lib.hid hol
      clear hos hol hj
      go_wp2_with (first | fail)
      go_ret
      exact ⟨A5, 0, c5, os, rfl, HOL.out.symm, HOS.out, (aW H)⟩
    ·obtain rfl : gk = 0 := by omega
     have HOS := Lib.hid hos
     have HOL := Lib.hid hol
     clear hos hol
     rw [Nat.sub_zero]
     go_wp2_with (first | fail)
     go_ret
     exact ⟨A5, m, c5, os, rfl, HOL.out.symm, HOS.out, (aW H)⟩
end Go.Proofs.YtlhmjhildlnokaaGreat
