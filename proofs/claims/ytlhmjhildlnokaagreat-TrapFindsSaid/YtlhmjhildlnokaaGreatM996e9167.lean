/-
  An argument that is an array of four integers. Nothing of the program stands here.
-/
import Derived.Test.YtlhmjhildlnokaaGreatMd6b25c4b
import Derived.Test.YtlhmjhildlnokaaGreatM0d4adf42
import Derived.Test.YtlhmjhildlnokaaGreatM819a59c3
import Derived.Test.YtlhmjhildlnokaaGreatM5d4fadd9
import Derived.Test.YtlhmjhildlnokaaGreatM686639d1
import Derived.Test.YtlhmjhildlnokaaGreatM403360d4
import Derived.Test.YtlhmjhildlnokaaGreatM586e9777
import Derived.ChangeArms
namespace Go.Proofs.YtlhmjhildlnokaaGreat
set_option linter.unusedVariables false
set_option linter.unusedSimpArgs false
open Go.RowKit Go.Sort Go.Shelf
theorem law21vr2 {P Q : Prop} (k : Q) (h : Hold Q → InR 3 0 (.q 0 (.q 2 (.q 3 (.q 1 (.e 4 (.e 5 (.q 6 (.q 7 (.q 8 (.q 9 (.q 10 .nil))))))))))) P := by exact aRC0) : P := h ⟨k⟩
theorem endB_iff {s : Sg} {q : Pt} : endB s q = true ↔ q = s.a ∨ q = s.b := by
 unfold endB
 simp only [Bool.or_eq_true, decide_eq_true_eq]
 exact ⟨fun h => h.imp Eq.symm Eq.symm, fun h => h.imp Eq.symm Eq.symm⟩
theorem endsE_any {vs : List Vt} {es : List Eg} {os : List Int} {q : Pt} (hp : (segsOf vs es os).reverse.Perm (edgeL vs es)) : (es.any fun e => endB (sgE vs e) q) = true ↔ EndS (segsOf vs es os).reverse q := by
 rw [List.any_eq_true]
 constructor
 ·rintro ⟨e, he, h⟩
  exact ⟨(e.id, sgE vs e), hp.mem_iff.2 (List.mem_map.2 ⟨e, he, rfl⟩), endB_iff.1 h⟩
 ·rintro ⟨s, hs, h⟩
  obtain ⟨e, he, rfl⟩ := List.mem_map.1 (hp.mem_iff.1 hs)
  exact ⟨e, he, endB_iff.2 h⟩
theorem findD_is {vs : List Vt} {es : List Eg} {os : List Int} {X : IxS} {q : Pt} {s1 s2 f : Int} (HR : RightP vs es) (I : BldI vs es os X) (Oo : OrdP es os) (h : FindP vs es os X q s1 s2 f) : findD vs es q = (s1, s2, f) := by
 have hp := segs_perm HR Oo
 rcases h with ⟨h1, rfl, rfl, rfl⟩ | ⟨h1, h2, rfl, rfl, rfl⟩ | ⟨h1, h2, rfl, h⟩
 ·unfold findD; rw [if_pos h1]
 ·unfold findD; rw [if_neg (by simp [h1]), if_pos ((endsE_any hp).2 h2)]
 ·unfold findD
  rw [if_neg (by simp [h1]), if_neg (fun g => h2 ((endsE_any hp).1 g))]
  rcases h with ⟨sg, m, sp, ey, rfl⟩ | ⟨i, p, e1, e2, hI, rfl, rfl⟩
  ·rw [refSpot_on HR (inP_b h1) (hp.mem_iff.1 m) sp ey]
  ·rw [refSpot_below HR I Oo (inP_b h1) e1 e2 hI]
theorem eqSd_in (a b c d : Int) (w : World) : (Op.equalIn 10000 43 (.agg #[.int .i64 a, .int .i64 b]) (.agg #[.int .i64 c, .int .i64 d])).run Tryz.prog w = .ok (decide (a = c) && decide (b = d)) w := by
 have h := eqS_in (P := Tryz.prog) (d := 9999) (T := 43) (xs := #[.int .i64 a, .int .i64 b]) (ys := #[.int .i64 c, .int .i64 d])
  [⟨3, 0, .int .i64 a, .int .i64 c, decide (a = c)⟩, ⟨3, 1, .int .i64 b, .int .i64 d, decide (b = d)⟩] (by kernel_rfl) (by kernel_rfl) (by kernel_rfl) (fun f hf => by
   simp only [List.mem_cons, List.not_mem_nil, or_false] at hf
   rcases hf with rfl | rfl
   ·exact ⟨part_cell int_agg rfl, part_cell int_agg rfl, eq_int_in 9998 _ _⟩
   ·exact ⟨part_cell int_agg rfl, part_cell int_agg rfl, eq_int_in 9998 _ _⟩) w
 rw [h]
 simp
theorem eqSd_eql (a b c d : Int) (w : World) : (binOp .eql 43 (.agg #[.int .i64 a, .int .i64 b]) (.agg #[.int .i64 c, .int .i64 d])).run Tryz.prog w = .ok (.bool (decide (a = c) && decide (b = d))) w := eqS_eql (P := Tryz.prog) (eqSd_in a b c d) w
theorem eqSd_guard (op : BinOp) (x y : Operand) (a0 : Int) (a1 : Int) (b0 : Int) (b1 : Int) (w : World) : (eqGuard op 43 x y (.agg #[.int .i64 a0, .int .i64 a1]) (.agg #[.int .i64 b0, .int .i64 b1])).run Tryz.prog w = .ok () w := by
 have h : Tryz.prog.eqGuardType Tryz.prog.depth 43 = false := by kernel_rfl
 cases op <;> simp [eqGuard, h]
set_option maxRecDepth 200000 in
set_option maxHeartbeats 64000000 in
theorem law_TrapFinds (A A2 : Option Addr) (c c2 : Nat) (vs : List Vt) (es : List Eg) (A3 : Option Addr) (c3 : Nat) (tu : List Int) (px py : Int) (w : World) (hp : PlArg w A A2 c c2 vs es) (hs3 : Sl (fun _ => False) w A3 (tu.map (Value.int .u8))) (hw3 : ∀ n ∈ tu, (Lit.int .u8 n).wf = true) :
  Calls Tryz.prog 3 #[.agg #[.slice A vs.length c, .slice A2 es.length c2], .slice A3 tu.length c3, pV px py] w fun e w' => e = .returned (.bool true) ∧ Below w.heap.size w w' := by
 change Sl _ w A3 (uR tu) at hs3
 obtain ⟨hs, hs2, hcv, hce, _, _⟩ := hp
 obtain ⟨F0, hF0⟩ : ∃ F0 : Nat → Prop, F0 = fun _ => False := ⟨_, rfl⟩
 have hFF : ∀ k, F0 k → k < w.heap.size := fun k h => by rw [hF0] at h; exact h.elim
 rw [← hF0] at hs hs2 hs3
 clear hF0
 obtain ⟨b0, o0, H1, f0⟩ := (Own.start w).addSl (hs.ro (by rfl))
 obtain ⟨b9, o9, H2, f9⟩ := H1.addSl (hs2.ro (by rfl))
 obtain ⟨b8, o8, H, f8⟩ := H2.addSl (hs3.ro (by rfl))
 clear hs hs2 hs3 H1 H2
 have hfw := few21_any A A2 vs.length es.length c c2
 obtain ⟨v0, hv0⟩ : ∃ v, (decide (vs.length ≤ 40) && decide (es.length ≤ 40)) = v := ⟨_, rfl⟩
 rw [hv0] at hfw
 cases v0
 ·clear hv0
  go_enter Tryz.func3, Tryz.ntmps3
  have tk0 : True := trivial
  go_wp2_with (first
   | (go_at_call 5; (with_reducible refine (hfw _).mono ?_); rintro e w3 ⟨rfl, hb⟩; replace H := H.ext hb; clear hb; dsimp only; (skip))
   | (go_at_call 4; (with_reducible refine (awake21_any _).mono ?_); rintro e w3 ⟨rfl, hb⟩; replace H := H.ext hb; clear hb; dsimp only; (skip))
   | ((guard_target = wpList _ _ _ (_ :: _) _ _); (first | (refine aaad3d59 ?_) | (refine aeebfb80 ?_; intro b2; clear H; (try clear w2); intro w2 H; (first | (clear tk0; rename Nat => b1) | (skip))))))
  exact bodyPost_ret (v := .bool true) (by simp [results, Tryz.results3]) rfl ⟨rfl, H.below⟩
 have hl : vs.length ≤ 40 := by simp at hv0; omega
 have hl2 : es.length ≤ 40 := by simp at hv0; omega
 clear hv0
 obtain ⟨n, hn⟩ : ∃ n, n = vs.length := ⟨_, rfl⟩
 obtain ⟨m, hm⟩ : ∃ n, n = es.length := ⟨_, rfl⟩
 obtain ⟨q, hq⟩ : ∃ n, n = tu.length := ⟨_, rfl⟩
 rw [← hn] at hl
 rw [← hm] at hl2
 have hc2 := hce.1
 have hcc := hce.2
 rw [← hm] at hc2
 rw [← hn, ← hm] at hfw
 rw [← hn, ← hm, ← hq]
 by_cases h100 : 100 < q
 ·clear hn hm hq
  go_enter Tryz.func3, Tryz.ntmps3
  have tk0 : True := trivial
  go_wp2_with (first
   | (go_at_call 5; (with_reducible refine (hfw _).mono ?_); rintro e w3 ⟨rfl, hb⟩; replace H := H.ext hb; clear hb; dsimp only; (skip))
   | (go_at_call 4; (with_reducible refine (awake21_any _).mono ?_); rintro e w3 ⟨rfl, hb⟩; replace H := H.ext hb; clear hb; dsimp only; (skip))
   | ((guard_target = wpList _ _ _ (_ :: _) _ _); (first | (refine aaad3d59 ?_) | (refine aeebfb80 ?_; intro b2; clear H; (try clear w2); intro w2 H; (first | (clear tk0; rename Nat => b1) | (skip))))))
  exact bodyPost_ret (v := .bool true) (by simp [results, Tryz.results3]) rfl ⟨rfl, H.below⟩
 have hq100 : q ≤ 100 := by omega
 have hu : ∀ t ∈ tu, 0 ≤ t ∧ t < 256 := fun t ht => wf_u8 (hw3 t ht)
 have hord := fun F w h1 h2 => order21_any vs es tu A A2 A3 n m q c c2 c3 F w hm hq h1 h2 hu hl2 hq100
 have HN := Lib.hid hn
 have HM := Lib.hid hm
 cases hr : rightB vs es
 ·have hbld := fun os B k cc w h1 h2 h3 h4 => build_noR hr os A A2 B n m k c c2 cc hn hm h1 (by omega) hl2 hc2 hcc w h2 h3 h4
  have hRt := fun F w h1 h2 => refRight_any vs es A A2 n m c c2 F w hn hm h1 h2 (by omega) (by omega) hc2 hcc
  rw [← right_same, hr] at hRt
  clear hr hn hm hq h100 hw3 hu
  go_enter Tryz.func3, Tryz.ntmps3
  have tk0 : True := trivial
  have tk1 : True := trivial
  go_wp2_with (first
   | (guard_target = Code.wp _ (Code.region 3 _ true) _ _ _; refine law21vr2 ?_; clear H; (try clear w2); intro w2 H)
   | (go_at_call 5; (with_reducible refine (hfw _).mono ?_); rintro e w3 ⟨rfl, hb⟩; replace H := H.ext hb; clear hb; dsimp only; (skip))
   | (go_at_call 4; (with_reducible refine (awake21_any _).mono ?_); rintro e w3 ⟨rfl, hb⟩; replace H := H.ext hb; clear hb; dsimp only; (skip))
   | (go_at_call 8; (with_reducible refine (hord _ _ (aD f9) (aD f8)).mono ?_); rintro e w3 ⟨B9, k9, c9, os, rfl, hk9, hpm, H2⟩; replace H := H.join H2 rfl; clear H2; simp only [List.cons_append, List.nil_append] at H; have HK9 := Lib.hid hk9; have HPM := Lib.hid hpm; clear hk9 hpm; dsimp only; (refine a8c34bfe ?_; clear hK K))
   | (go_at_call 6; (with_reducible refine (hbld _ _ _ _ _ HK9.out aN0 aN0 (by exact H.slGrow m0)).mono ?_); rintro e w3 ⟨rfl, hb⟩; replace H := H.ext hb; clear hb; dsimp only; (refine a8c34bfe ?_; clear hK K))
   | (go_at_call 9; (with_reducible refine (hRt _ _ (aD f0) (aD f9)).mono ?_); rintro e w3 ⟨rfl, hb⟩; replace H := H.ext hb; clear hb; dsimp only; (skip))
   | ((first | guard_target = wpList _ _ _ (_ :: _) _ _ | guard_target = wpTreeC _ _ _ _ _ _ _); (first | (refine aaad3d59 ?_) | (refine aeebfb80 ?_; intro b2; clear H; (try clear w2); intro w2 H; (first | (clear tk0; rename Nat => b1) | (clear tk1; rename Nat => b2))) | (guard_target = wpTreeC _ _ _ (Tr.q _ _) _ _ _; (with_reducible refine treeC_call (v := ?_) (o := ?_) (aK H) ?_ ?_ (fun w3 H K hK => ?_) ?_); rotate_left 2; exact rfl; exact rfl; (focus (simp only [List.getElem_toArray, List.getElem_cons_succ, List.getElem_cons_zero]; (go_big_op; (go_at_call 7; (with_reducible refine (plain21_any _ _ _ _ _ _ _).mono ?_); rintro e w3 ⟨rfl, hb⟩; dsimp only; exact aE)))); refine a75ac28e ?_) | (guard_target = wpTreeC _ _ _ Tr.nil _ _ _; refine treeC_nil H ?_; clear H; (try clear w2); intro w2 H) | (refine abe83802 ?_; clear H; (try clear w2); intro w2 H; intro K hK))))
  exact bodyPost_ret (v := .bool true) (by simp [results, Tryz.results3]) rfl ⟨rfl, H.below⟩
 ·have hbld := fun os B k cc w h0 h1 h2 h3 h4 => build_yesR hr os A A2 B n m k c c2 cc hn hm h1 (by omega) hl2 hc2 hcc w h0 h2 h3 h4
  have HR := Lib.hid (rightT_P hr)
  have hFd := fun F w h1 h2 => refFind_any vs es A A2 n m c c2 F px py w HR.out hn hm h1 h2 (by omega) (by omega)
  obtain ⟨⟨z1, z2, z3⟩, hz⟩ : ∃ z, findD vs es ⟨px, py⟩ = z := ⟨_, rfl⟩
  rw [hz] at hFd
  simp only at hFd
  have HZ := Lib.hid hz
  clear hz
  clear hr hn hm hq h100 hw3 hu
  go_enter Tryz.func3, Tryz.ntmps3
  have tk0 : True := trivial
  have tk1 : True := trivial
  have X0 := @eqSd_eql
  have X1 := @eqSd_guard
  have X2 := @zz
  have X3 := @zz
  go_wp2_with (first
   | go_big_skip
   | (guard_target = Code.wp _ (Code.region 3 _ true) _ _ _; refine law21vr2 ?_; clear H; (try clear w2); intro w2 H)
   | (go_at_call 5; (with_reducible refine (hfw _).mono ?_); rintro e w3 ⟨rfl, hb⟩; replace H := H.ext hb; clear hb; dsimp only; (skip))
   | (go_at_call 4; (with_reducible refine (awake21_any _).mono ?_); rintro e w3 ⟨rfl, hb⟩; replace H := H.ext hb; clear hb; dsimp only; (skip))
   | (go_at_call 8; (with_reducible refine (hord _ _ (aD f9) (aD f8)).mono ?_); rintro e w3 ⟨B9, k9, c9, os, rfl, hk9, hpm, H2⟩; replace H := H.join H2 rfl; clear H2; simp only [List.cons_append, List.nil_append] at H; have HK9 := Lib.hid hk9; have HPM := Lib.hid hpm; clear hk9 hpm; dsimp only; (refine a8555864 ?_; clear hK K))
   | (go_at_call 6; (with_reducible refine (hbld _ _ _ _ _ HPM.out HK9.out aN0 aN0 (by exact H.slGrow m0)).mono ?_); rintro e w3 ⟨X, bx, ks, ke, cn, cp, dn, dp, rfl, hI, H2⟩; replace H := H.join H2 rfl; clear H2; simp only [xL, List.cons_append, List.nil_append] at H; have HI := Lib.hid hI; clear hI; dsimp only; (refine a8555864 ?_; clear hK K))
   | (go_at_call 10; (with_reducible refine (xfind_any HR.out HI.out (perm_len HPM.out HM.out hl2) px py H).mono ?_); rintro e w3 ⟨s1, s2, f, rfl, hF, H2⟩; replace H := H2; clear H2; have HF := Lib.hid hF; clear hF; dsimp only; (skip))
   | (go_at_call 11; (with_reducible refine (hFd _ _ (aD f0) (aD f9)).mono ?_); rintro e w3 ⟨rfl, hb⟩; replace H := H.ext hb; clear hb; dsimp only; (skip))
   | ((first | guard_target = wpList _ _ _ (_ :: _) _ _ | guard_target = wpTreeC _ _ _ _ _ _ _); (first | (refine ad78d842 ?_) | (refine a6155ff7 ?_; clear H; (try clear w2); intro w2 H) | (refine a919741b ?_; intro b2; clear H; (try clear w2); intro w2 H; (first | (clear tk0; rename Nat => b1) | (clear tk1; rename Nat => b2) | (skip))) | (guard_target = wpTreeC _ _ _ (Tr.q _ _) _ _ _; (with_reducible refine treeC_call (v := ?_) (o := ?_) (aK H) ?_ ?_ (fun w3 H K hK => ?_) ?_); rotate_left 2; exact rfl; exact rfl; (focus (simp only [List.getElem_toArray, List.getElem_cons_succ, List.getElem_cons_zero]; (go_big_op; (go_at_call 7; (with_reducible refine (plain21_any _ _ _ _ _ _ _).mono ?_); rintro e w3 ⟨rfl, hb⟩; dsimp only; exact aE)))); refine a2248804 ?_) | (guard_target = wpTreeC _ _ _ Tr.nil _ _ _; refine treeC_nil H ?_; clear H; (try clear w2); intro w2 H) | (refine abe83802 ?_; clear H; (try clear w2); intro w2 H; intro K hK))))
  all_goals
   have hz := findD_is HR.out HI.out (ordP_of HR.out HPM.out) HF.out
   rw [HZ.out] at hz
   obtain ⟨e1, e2, e3⟩ : z1 = s1 ∧ z2 = s2 ∧ z3 = f := by simpa using hz
   first
    | exact absurd e3.symm (by assumption)
    | (subst e1 e2 e3; exact bodyPost_ret (v := .bool true) (by simp [results, Tryz.results3]) rfl ⟨rfl, H.below⟩)
end Go.Proofs.YtlhmjhildlnokaaGreat
namespace Go.Proofs.YtlhmjhildlnokaaGreat
set_option linter.unusedVariables false
set_option linter.constructorNameAsVariable false
open Go.RowKit Go.WideShapes Go.ChangeShapes
section
variable {H : Type} {enc : TypeId × Value → H} {P : Program} {w : World} {base : Nat} {spare : Nat → Bool} {held : Bool}
theorem open_nums {r : Reach} {b0 : Nat} {t e : TypeId} {k : IntKind} {v : Value} {d : DataW H} {p : List MemPlace} (ht : P.underlying t = some (.slice e)) (he : P.underlying e = some (.int k)) (hc : P.cellsOf e = 1)
  (hv : Value.okWide P w r b0 t v) (h : DataW.Trod enc P w base spare held t v d p) :
  ∃ (A : Option Addr) (cap : Nat) (L : List Int), v = .slice A L.length cap ∧ L.length ≤ cap ∧ cap ≤ maxLen ∧ (∀ n ∈ L, (Lit.int k n).wf = true) ∧ Sl (fun _ => False) w A (L.map (Value.int k)) := by
 obtain ⟨a0, len0, cap0, rfl⟩ := okWide_slice ht hv
 obtain ⟨fuel, hf⟩ := h
 rcases DataW.trod_slice ht hf with ⟨hcs, _⟩ | ⟨a, len, cap, elems, rest, n', _, hcs, _, hb, hl, hm, hlen, hel, _⟩
 ·simp [Value.cells] at hcs
  obtain ⟨rfl, rfl, rfl⟩ := hcs
  exact ⟨none, 0, [], rfl, Nat.le_refl _, Nat.zero_le _, by simp, row_sl (Row.nil_ _ _)⟩
 ·simp [Value.cells] at hcs
  obtain ⟨rfl, rfl, rfl⟩ := hcs
  have each : ∀ i, i < len0 → ∃ n : Int, (Lit.int k n).wf = true ∧ w.cell? (a.add i) = some (.int k n) := by
   intro i hi
   have h1 := hel i hi
   have h2 : elems[i]? = some elems[i] := List.getElem?_eq_getElem (by omega)
   rw [h2, Option.bind_eq_some_iff] at h1
   obtain ⟨cs', h3, h4⟩ := h1
   obtain ⟨n, rfl, _, hw⟩ := DataW.trod_int he h4
   refine ⟨n, hw, ?_⟩
   have h5 := World.cells?_some h3
   rw [hc] at h5
   have := h5.2.2 0 (by omega)
   simp only [Nat.mul_one] at this
   rw [show (a.add i).add 0 = a.add i by rw [add_add, Nat.add_zero]] at this
   simpa using this
  have choose : ∀ q, q ≤ len0 → ∃ L : List Int, L.length = q ∧ (∀ n ∈ L, (Lit.int k n).wf = true) ∧ ∀ i n, L[i]? = some n → w.cell? (a.add i) = some (.int k n) := by
   intro q
   induction q with
   | zero => exact fun _ => ⟨[], rfl, by simp, by simp⟩
   | succ q ih =>
    intro hk
    obtain ⟨L, h1, h2, h3⟩ := ih (by omega)
    obtain ⟨v, h4, h5⟩ := each q (by omega)
    refine ⟨L ++ [v], by simp [h1], fun u hu => ?_, fun i u hi => ?_⟩
    ·rcases List.mem_append.1 hu with hu | hu
     ·exact h2 u hu
     ·obtain rfl := List.mem_singleton.1 hu; exact h4
    ·rw [List.getElem?_append] at hi
     split at hi
     ·exact h3 i u hi
     ·rename_i hik
      have : i - L.length = 0 := by
       by_cases h0 : i - L.length = 0
       ·exact h0
       ·rw [List.getElem?_eq_none (by simp; omega)] at hi; cases hi
      rw [this] at hi
      obtain rfl : v = u := by simpa using hi
      obtain rfl : i = q := by omega
      exact h5
  obtain ⟨L, h1, h2, h3⟩ := choose len0 (Nat.le_refl _)
  refine ⟨some a, cap0, L, by rw [h1], by omega, hm, h2, row_sl (Row.of_cells fun j v hv => ?_)⟩
  rw [List.getElem?_map] at hv
  obtain ⟨n, h4, rfl⟩ := Option.map_eq_some_iff.1 hv
  exact h3 j n h4
end
end Go.Proofs.YtlhmjhildlnokaaGreat
namespace Go.Proofs.YtlhmjhildlnokaaGreat
set_option linter.unusedVariables false
open Go.RowKit Go.WideShapes Go.ChangeShapes
end Go.Proofs.YtlhmjhildlnokaaGreat
