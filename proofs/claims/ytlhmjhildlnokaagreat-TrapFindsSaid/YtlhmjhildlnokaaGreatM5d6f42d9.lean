/-
  The walk of ratio.Make.
-/
import Derived.Test.YtlhmjhildlnokaaGreatMd6b25c4b
import Derived.Test.YtlhmjhildlnokaaGreatM90117345
import Derived.Test.YtlhmjhildlnokaaGreatM6c9709ae
import Derived.Test.YtlhmjhildlnokaaGreatM0d4adf42
import Derived.Test.YtlhmjhildlnokaaGreatM1e5483af
namespace Go.Proofs.YtlhmjhildlnokaaGreat
set_option linter.unusedVariables false
set_option linter.unusedSimpArgs false
open Go.RowKit
def RetNn2 (F : Nat → Prop) (w : World) (m n : Nat) (e : Ending) (w' : World) : Prop :=
 ∃ A c l A' c' l', e = .returned (.tuple #[.agg #[.bool false, .slice A l.length c], .agg #[.bool false, .slice A' l'.length c']]) ∧ Below w.heap.size w w' ∧ Sl F w' A (dl l) ∧ CnI l (m : Int) ∧ l.length ≤ c ∧ c ≤ maxLen ∧
  Sl F w' A' (dl l') ∧ CnI l' (n : Int) ∧ l'.length ≤ c' ∧ c' ≤ maxLen
theorem divNn_any (F : Nat → Prop) (w : World) (hF : ∀ k, F k → k < w.heap.size) (A1 A2 : Option Addr) (c1 c2 : Nat) (a b : List Nat) (m n : Nat) (ga : CnI a (m : Int)) (gb : CnI b (n : Int)) (hn : 0 < n) (ha : Sl F w A1 (dl a)) (hb : Sl F w A2 (dl b)) (la : a.length ≤ 450) (lb : b.length ≤ 450) (ma : a.length ≤ c1) (mb : b.length ≤ c2) (ma2 : c1 ≤ maxLen) (mb2 : c2 ≤ maxLen) :
  Calls Tryz.prog 103 #[.agg #[.bool false, .slice A1 a.length c1], .agg #[.bool false, .slice A2 b.length c2]] w (RetNn2 F w (m / n) (m % n)) := by
 have h := refDiv_any F w hF A1 A2 c1 c2 a b m n ha hb ga gb la lb ma mb ma2 mb2 (by omega)
 rw [natneg, natneg] at h
 refine h.mono ?_
 rintro e w' ⟨A, c, l, A', c', l', he, hb, h1, h2, h3, h4, h5, h6, h7, h8⟩
 rw [Int.tdiv_eq_ediv_of_nonneg (by omega), ← Int.natCast_ediv] at he h2
 rw [Int.tmod_eq_emod_of_nonneg (by omega), ← Int.natCast_emod] at he h6
 rw [natneg, natneg] at he
 exact ⟨A, c, l, A', c', l', he, hb, h1, h2, h3, h4, h5, h6, h7, h8⟩
def RGcdRel (F : Nat → Prop) (w : World) (g d2 d3 d4 : Nat) (k : Nat) (wr : World) : Prop :=
 ∃ (p : Nat) (A A' : Option Addr) (c c' b o b' o' : Nat) (l l' : List Nat), CnI l (p : Int) ∧ CnI l' (k : Int) ∧ Nat.gcd p k = g ∧ l.length ≤ 450 ∧ l'.length ≤ 450 ∧ l.length ≤ c ∧ c ≤ maxLen ∧ l'.length ≤ c' ∧ c' ≤ maxLen ∧ (0 < (dl l).length → ¬ F b) ∧ (0 < (dl l').length → ¬ F b') ∧
  Own w.heap.size w wr [.rd A' b' o' (dl l'), .rd A b o (dl l), .cells d4 [.bool false, .slice none 0 0], .cells d3 [.bool false, .slice A' l'.length c'], .cells d2 [.bool false, .slice A l.length c]]
set_option maxRecDepth 100000 in
set_option maxHeartbeats 4000000 in
theorem refGcd_any (F : Nat → Prop) (w : World) (hF : ∀ k, F k → k < w.heap.size) (A1 A2 : Option Addr) (c1 c2 : Nat) (a b : List Nat) (x y : Int) (s t : Bool) (ha : Sl F w A1 (dl a)) (hb : Sl F w A2 (dl b)) (ga : CnI a x) (gb : CnI b y) (la : a.length ≤ 450) (lb : b.length ≤ 450)
  (ma : a.length ≤ c1) (mb : b.length ≤ c2) (ma2 : c1 ≤ maxLen) (mb2 : c2 ≤ maxLen) :
  Calls Tryz.prog 83 #[.agg #[.bool s, .slice A1 a.length c1], .agg #[.bool t, .slice A2 b.length c2]] w (RetNn F w (Nat.gcd x.natAbs y.natAbs)) := by
 obtain ⟨b2, o2, H2, f2⟩ := (Own.start w).addSl (hb.ro (by rfl))
 obtain ⟨b1, o1, H, f1⟩ := H2.addSl (ha.ro (by rfl))
 clear ha hb H2
 go_enter Tryz.func83, Tryz.ntmps83
 have tk0 : True := trivial
 have tk1 : True := trivial
 have tk2 : True := trivial
 go_wp2_with (guard_target = wpList _ _ _ (_ :: _) _ _; (first | (refine a181aa22 ?_; clear H; (try clear w2); intro w2 H) | (refine a9475ade ?_; intro b2; clear H; (try clear w2); intro w2 H; (first | (clear tk0; rename Nat => d2) | (clear tk1; rename Nat => d3) | (clear tk2; rename Nat => d4)))))
 go_loopg [] y.natAbs (RGcdRel F w (Nat.gcd x.natAbs y.natAbs) d2 d3 d4)
 case atStart =>
  exact ⟨x.natAbs, A1, A2, c1, c2, b1, o1, b2, o2, a, b, ga.nat, gb.nat, rfl, la, lb, ma, ma2, mb, mb2, f1, f2, H.front3.front4⟩
 case round =>
  clear H
  obtain ⟨p, A, A', c, c', b, o, b', o', l, l', gl, gl', hg, ll, ll', h1, h2, h3, h4, fl, fl', H⟩ := hrel
  have HG := Lib.hid hg
  clear hg
  by_cases h0 : 0 < gk
  ·have hl0 : 0 < l'.length := List.length_pos_iff.2 fun h => by have := gl'.nil_iff.1 h; omega
   have HD := fun (F : Nat → Prop) (w : World) hF A A' ha hb => divNn_any F w hF A A' c c' l l' p gk gl gl' h0 ha hb ll ll' h1 h3 h2 h4
   have tk0 : True := trivial
   have tk1 : True := trivial
   go_wp2_with (first
    | (go_at_call 103; (with_reducible refine (HD (FW F _) _ (H.fw_lt rfl hF) _ _ (H.giveRd m1 fl) (H.giveRd m0 fl')).mono ?_); rintro e w3 ⟨A5, c5, l5, A6, c6, l6, rfl, hb, s5, g5, q5, p5, s6, g6, q6, p6⟩; replace H := H.ext hb; clear hb; obtain ⟨b6, o6, H4, f6⟩ := H.addSl s6; clear H s6; have H := H4; clear H4; dsimp only)
    | (guard_target = wpList _ _ _ (_ :: _) _ _; (first | (refine a15dc6b3 ?_) | (refine a181aa22 ?_; clear H; (try clear w2); intro w2 H) | (refine a9475ade ?_; intro b2; clear H; (try clear w2); intro w2 H; (first | (clear tk0; rename Nat => d5) | (clear tk1; rename Nat => d6))))))
   go_roundg (p % gk)
   case rel =>
    have hlen : l6.length ≤ 450 := by
     have := g6.len_of (Nat.le_of_lt (Nat.mod_lt p h0)) (by have := gl'.lt; rwa [Int.natAbs_natCast] at this)
     omega
    refine ⟨gk, A', A6, c', c6, b', o', b6, o6, l', l6, gl', g6, ?_, ll', hlen, h3, h4, q6, p6, fl', f6, H.sub (.cons _ (.cons _ (.cons_cons _ (.cons_cons _ (.cons _ (.refl _))))))⟩
    rw [← HG.out, Nat.gcd_comm gk, ← Nat.gcd_rec, Nat.gcd_comm]
   case measure => exact Nat.mod_lt _ h0
  ·obtain rfl : gk = 0 := by omega
   obtain rfl : l' = [] := gl'.nil_iff.2 rfl
   have hg : p = Nat.gcd x.natAbs y.natAbs := by rw [← HG.out, Nat.gcd_zero_right]
   have HG2 := Lib.hid hg
   clear hg HG
   go_wp2_with (guard_target = wpList _ _ _ (_ :: _) _ _; (first | (refine a15dc6b3 ?_) | (refine a181aa22 ?_; clear H; (try clear w2); intro w2 H)))
   have hr := H.loadVarN (P := Tryz.prog) (ty := 124) m2 (by simp) (by simp)
   rw [← HG2.out]
   exact bodyPost_ret (v := .agg #[.bool false, .slice A l.length c]) (by simp [results, Tryz.results83, asAddr, hr]) rfl ⟨A, c, l, rfl, H.below, (H.giveRd m1 fl).fw, gl, h1, h2⟩
def iL (z : Int) : List Value := [.int .u64 (z % 18446744073709551616), .int .u64 (z / 18446744073709551616 % 18446744073709551616),
 .int .u64 (z / 340282366920938463463374607431768211456 % 18446744073709551616), .int .u64 (z / 6277101735386680763835789423207666416102355444464034512896 % 18446744073709551616)]
theorem cells_iV (z : Int) : (iV z).cells = (iL z).toArray := rfl
theorem agg_iL (z : Int) : Value.agg (iL z).toArray = iV z := rfl
theorem iL_length (z : Int) : (iL z).length = 4 := rfl
theorem setL_i (r0 r1 r2 r3 : Value) (z : Int) : setL [r0, r1, r2, r3] 0 (iL z) = iL z := rfl
theorem setL_ii (z y : Int) : setL (iL y) 0 (iL z) = iL z := rfl
def rL (n d : Int) : List Value := iL n ++ iL d
def rV (n d : Int) : Value := .agg (rL n d).toArray
theorem cells_rV (n d : Int) : (rV n d).cells = (rL n d).toArray := rfl
theorem rL_length (n d : Int) : (rL n d).length = 8 := rfl
theorem agg_rL (n d : Int) : Value.agg (rL n d).toArray = rV n d := rfl
theorem setL_r (r0 r1 r2 r3 r4 r5 r6 r7 : Value) (n d : Int) : setL [r0, r1, r2, r3, r4, r5, r6, r7] 0 (rL n d) = rL n d := rfl
theorem setL_rr (m e n d : Int) : setL (rL m e) 0 (rL n d) = rL n d := rfl
theorem rat_num {b : Nat} {n d : Int} : (Res.cells b (rL n d)).at b 0 (iL n) := at_part 0 4 (by simp [rL_length])
theorem rat_den {b : Nat} {n d : Int} : (Res.cells b (rL n d)).at b 4 (iL d) := at_part 4 4 (by simp [rL_length])
section
variable {P : Program} {B : Nat} {w0 w : World} {l : List Res} {o : Oper} {a : Act} {Q : Exit → Act → World → Prop} {ty : TypeId} {x : Operand} {b : Nat} {n d : Int}
theorem q_loadNum {lf : List Res} {K : Act → Prop} (ho : o.op = .load ty x) (hx : a.eval x = .pointer (some ⟨b, 0, none⟩)) (hm : Res.cells b (rL n d) ∈ lf)
  (ha : ∀ w, (isAgg ty).run P w = .ok true w) (hs : ∀ w, (sizeOf ty).run P w = .ok 4 w) (hk : K (a.put o.dst (iV n))) : o.quiet P a (Keeps B w0 lf) K := q_loadN ho hx rat_num hm ha hs hk
theorem q_loadDen {lf : List Res} {K : Act → Prop} (ho : o.op = .load ty x) (hx : a.eval x = .pointer (some ⟨b, 4, none⟩)) (hm : Res.cells b (rL n d) ∈ lf)
  (ha : ∀ w, (isAgg ty).run P w = .ok true w) (hs : ∀ w, (sizeOf ty).run P w = .ok 4 w) (hk : K (a.put o.dst (iV d))) : o.quiet P a (Keeps B w0 lf) K := q_loadN ho hx rat_den hm ha hs hk
theorem o_loadDen {K : Act → World → Prop} (ho : o.op = .load ty x) (hx : a.eval x = .pointer (some ⟨b, 4, none⟩)) (H : Own B w0 w l) (hm : Res.cells b (rL n d) ∈ l)
  (ha : ∀ w, (isAgg ty).run P w = .ok true w) (hs : ∀ w, (sizeOf ty).run P w = .ok 4 w) (hk : K (a.put o.dst (iV d)) w) : o.wp P a w K Q := o_loadN ho hx H rat_den hm ha hs hk
theorem o_build {K : Act → World → Prop} {t : TypeId} {parts : Array (Nat × Operand)} {ps : Array (Nat × Value)} {v : Value} (ho : o.op = .build t parts) (hp : parts.map (fun q => (q.1, a.eval q.2)) = ps)
  (hb : ∀ w : World, (Instr.build t ps).run P w = .ok v w) (hk : K (a.put o.dst v) w) : o.wp P a w K Q := by
 unfold Oper.wp execOp
 subst hp
 simp only [ho, Sem.run_bind, hb w]
 exact hk
end
theorem rV_zero : rV 0 0 = .agg #[.int .u64 0, .int .u64 0, .int .u64 0, .int .u64 0, .int .u64 0, .int .u64 0, .int .u64 0, .int .u64 0] := by kernel_rfl
structure Rat2 (T t : TypeId) : Prop where
 und : Tryz.prog.underlying T = some (.struct (Tryz.prog.fieldsOf T))
 held : Tryz.prog.stoodInHeld T = false
 fields : (Tryz.prog.fieldsOf T).toList.map (fun f => (f.name == "_", f.type, f.offset)) = [(false, t, 0), (false, t, 4)]
 und1 : ∀ w, (underlying t).run Tryz.prog w = .ok (.array 4 103) w
 size1 : ∀ w, (sizeOf t).run Tryz.prog w = .ok 4 w
 agg1 : ∀ w, (isAgg t).run Tryz.prog w = .ok true w
theorem Rat2.two {T t : TypeId} (h : Rat2 T t) : ∃ f g, (Tryz.prog.fieldsOf T).toList = [f, g] ∧ f.name ≠ "_" ∧ g.name ≠ "_" ∧ f.offset = 0 ∧ g.offset = 4 ∧ f.type = t ∧ g.type = t := by
 have hf := h.fields
 revert hf
 generalize (Tryz.prog.fieldsOf T).toList = l
 intro hf
 match l, hf with
 | [], hf => simp at hf
 | [_], hf => simp at hf
 | _ :: _ :: _ :: _, hf => simp at hf
 | [f, g], hf =>
  simp at hf
  obtain ⟨⟨f1, f2, f3⟩, g1, g2, g3⟩ := hf
  exact ⟨f, g, rfl, f1, g1, f3, g3, f2, g2⟩
theorem fill_two (a b c d e f g h z0 z1 z2 z3 z4 z5 z6 z7 : Value) : Instr.fill (fun i => (#[(0, 4), (4, 4)] : Array (Nat × Nat))[i]?) #[z0, z1, z2, z3, z4, z5, z6, z7] [(0, .agg #[a, b, c, d]), (1, .agg #[e, f, g, h])] = some #[a, b, c, d, e, f, g, h] := by
 simp [Instr.fill, Value.cells, List.zipIdx, List.foldl]
def gcdZ (x y : Int) : Int := ((Int.gcd x y : Nat) : Int)
end Go.Proofs.YtlhmjhildlnokaaGreat
namespace Go.Proofs.YtlhmjhildlnokaaGreat
set_option linter.unusedVariables false
theorem fit16 {x : Int} (hx : R256 x) {l : List Nat} (g : CnI l x) : l.length ≤ 16 := g.len_le (by
 have e : (65536 : Nat) ^ 16 = 115792089237316195423570985008687907853269984665640564039457584007913129639936 := by decide
 rw [e]; unfold R256 at hx; omega)
theorem fit450 {x : Int} (hx : R256 x) {l : List Nat} (g : CnI l x) : l.length ≤ 450 := Nat.le_trans (fit16 hx g) (by decide)
theorem abs256 {x : Int} (hx : R256 x) : x.natAbs ≤ 57896044618658097711785492504343953926634992332820282019728792003956564819968 := by unfold R256 at hx; omega
def R512 (z : Int) : Prop := z.natAbs ≤ 3351951982485649274893506249551461531869841455148098344430890360930441007518386744200468574541725856922507964546621512713438470702986642486608412251521024
theorem wide_mul {x y : Int} (hx : R256 x) (hy : R256 y) : R512 (x * y) := by
 have h := Nat.mul_le_mul (abs256 hx) (abs256 hy)
 unfold R512
 rw [Int.natAbs_mul]
 exact Nat.le_trans h (by decide)
theorem wide_self {x : Int} (hx : R256 x) : R512 x := by
 have h1 := abs256 hx
 unfold R512
 omega
theorem wide_neg {x : Int} (hx : R512 x) : R512 (-x) := by
 unfold R512 at *
 omega
theorem fit32 {x : Int} (hx : R512 x) {l : List Nat} (g : CnI l x) : l.length ≤ 32 := g.len_le (by
 have e : (65536 : Nat) ^ 32 = 13407807929942597099574024998205846127479365820592393377723561443721764030073546976801874298166903427690031858186486050853753882811946569946433649006084096 := by decide
 rw [e]; unfold R512 at hx; omega)
theorem fit1000 {x : Int} (hx : R512 x) {l : List Nat} (g : CnI l x) : l.length ≤ 1000 := Nat.le_trans (fit32 hx g) (by decide)
end Go.Proofs.YtlhmjhildlnokaaGreat
namespace Go.Proofs.YtlhmjhildlnokaaGreat
set_option linter.unusedVariables false
set_option linter.unusedSimpArgs false
open Go.RowKit
theorem ref04ax1 {P Q : Prop} (k : Q) (h : Hold Q → P := by (intro kk; guard_target = wpList _ _ _ (Oper.mk _ (.load _ _) _ _ _ _ :: _) _ _; (with_reducible refine BigFrame.wpList_want ?_ (fun K hK => ?_)); exact rfl; (refine o_loadDen (n := ?_) (d := ?_) rfl rfl H ?_ ?_ ?_ (hK _ _ ?_); rotate_left 2; (repeat first | exact .head _ | apply List.Mem.tail); (focus (intro _; simp [cells_iV, iL_length, setL_i, setL_ii, agg_iL, cells_rV, rL_length, setL_r, setL_rr, agg_rL]; done)); (focus (intro _; simp [cells_iV, iL_length, setL_i, setL_ii, agg_iL, cells_rV, rL_length, setL_r, setL_rr, agg_rL]; done))); clear hK K; simp only [Act.put, List.setIfInBounds_toArray, List.set_cons_succ, List.set_cons_zero, cells_iV, iL_length, setL_i, setL_ii, agg_iL, cells_rV, rL_length, setL_r, setL_rr, agg_rL]; exact kk.out)) : P := h ⟨k⟩
theorem ref04ax2 {P Q : Prop} (k : Q) (h : Hold Q → P := by (intro kk; guard_target = wpTree _ _ _ (Tr.q _ _) _ _ _; (with_reducible refine tree_quiet (o := ?_) (aK H) ?_ ?_ ?_ (fun K hK => ?_)); rotate_left 1; exact rfl; exact rfl; exact rfl; simp only [List.getElem_toArray, List.getElem_cons_succ, List.getElem_cons_zero]; (guard_target = Oper.quiet _ (Oper.mk _ (.load _ _) _ _ _ _) _ _ _; (refine q_loadNum (n := ?_) (d := ?_) rfl rfl ?_ ?_ ?_ (hK _ ?_); rotate_left 2; (repeat first | exact .head _ | apply List.Mem.tail); (focus (intro _; simp [cells_iV, iL_length, setL_i, setL_ii, agg_iL, cells_rV, rL_length, setL_r, setL_rr, agg_rL]; done)); (focus (intro _; simp [cells_iV, iL_length, setL_i, setL_ii, agg_iL, cells_rV, rL_length, setL_r, setL_rr, agg_rL]; done))); clear hK K; simp only [Act.put, List.setIfInBounds_toArray, List.set_cons_succ, List.set_cons_zero, cells_iV, iL_length, setL_i, setL_ii, agg_iL, cells_rV, rL_length, setL_r, setL_rr, agg_rL]); exact kk.out)) : P := h ⟨k⟩
theorem ref04ag4 {P Q : Prop} (k : Q) (h : Hold Q → P := by (intro kk; (first | (guard_target = wpList _ _ _ (Oper.mk _ (.load _ _) _ _ _ _ :: _) _ _; exact ref04ax1 kk.out) | (guard_target = wpTree _ _ _ (Tr.q _ _) _ _ _; exact ref04ax2 kk.out) | (guard_target = wpTree _ _ _ (Tr.q _ _) _ _ _; exact a71f6998 kk.out) | (guard_target = wpTree _ _ _ (Tr.e _ _) _ _ _; exact a70bfde7 kk.out)))) : P := h ⟨k⟩
theorem ref04ar1 {P Q : Prop} (k : Q) (h : Hold Q → InR 2 0 (.q 0 (.q 1 (.q 2 (.q 3 (.q 4 (.q 5 (.q 6 (.q 7 (.q 8 (.q 9 (.q 10 (.q 11 (.q 13 (.e 12 (.e 14 (.e 15 (.q 16 (.q 17 .nil)))))))))))))))))) P := by exact aR0) : P := h ⟨k⟩
set_option maxRecDepth 100000 in
set_option maxHeartbeats 4000000 in
theorem refOf_any (F : Nat → Prop) (w : World) (hF : ∀ k, F k → k < w.heap.size) (x : Int) (hx : R256 x) :
  Calls Tryz.prog 67 #[iV x] w (RetN F w x) := by
 have H := Own.start w
 have hf := fun F w hF => refFrom_any F w hF x hx
 go_enter Tryz.func67, Tryz.ntmps67
 have tk0 : True := trivial
 have tk1 : True := trivial
 go_wp2_with (first
  | (go_at_call 89; (with_reducible refine (hf (FW F _) _ (H.fw_lt rfl hF)).mono ?_); rintro e w3 ⟨A5, k5, l5, rfl, hb, s5, g5, q5, p5⟩; replace H := H.ext hb; clear hb; obtain ⟨b5, o5, H4, f5⟩ := H.addSl s5; clear H s5; have H := H4; clear H4; dsimp only)
  | (guard_target = wpList _ _ _ (_ :: _) _ _; (first | (refine ac566c20 ?_) | (refine afa22382 ?_; clear H; (try clear w2); intro w2 H) | (refine a84b70ec ?_; intro b2; clear H; (try clear w2); intro w2 H; (first | (clear tk0; rename Nat => c1) | (clear tk1; rename Nat => c2))))))
 have hr := H.loadVarN (P := Tryz.prog) (ty := 124) m1 (by simp) (by simp)
 exact bodyPost_ret (v := .agg #[.bool (decide (x < 0)), .slice A5 l5.length k5]) (by simp [results, Tryz.results67, asAddr, hr]) rfl ⟨A5, k5, l5, rfl, H.below, (H.giveRd m0 f5).fw, g5, q5, p5⟩
theorem one_cases {l : List Nat} {z : Int} (g : CnI l z) : (decide (z < 0) = true ∧ decide (z = 1) = false) ∨ (decide (z < 0) = false ∧ ((l.length : Int) == 1) = false ∧ decide (z = 1) = false) ∨ (∃ d : Nat, l = [d] ∧ decide (z < 0) = false ∧ ((d : Int) == 1) = decide (z = 1)) := by
 by_cases h : z < 0
 ·exact .inl ⟨by simpa using h, by simp; omega⟩
 ·have hn : decide (z < 0) = false := by simpa using h
  have hv := g.2.2
  match l, g, hv with
  | [], g, hv =>
   simp [val] at hv
   exact .inr (.inl ⟨hn, by simp, by simp; omega⟩)
  | [d], g, hv =>
   simp [val] at hv
   refine .inr (.inr ⟨d, rfl, hn, ?_⟩)
   rw [Bool.eq_iff_iff]
   simp
   omega
  | d :: e :: m, g, hv =>
   refine .inr (.inl ⟨hn, ?_, ?_⟩)
   ·simp; omega
   ·simp
    intro hz
    subst hz
    have h1 := g.len_le (K := 1) (by decide)
    simp at h1
set_option maxRecDepth 100000 in
set_option maxHeartbeats 4000000 in
theorem refOne_any (F : Nat → Prop) (w : World) (hF : ∀ k, F k → k < w.heap.size) (A : Option Addr) (c : Nat) (l : List Nat) (z : Int) (ha : Sl F w A (dl l)) (g : CnI l z) :
  Calls Tryz.prog 82 #[.agg #[.bool (decide (z < 0)), .slice A l.length c]] w fun e w' => e = .returned (.bool (decide (z = 1))) ∧ Below w.heap.size w w' := by
 obtain ⟨b1, o1, H, f1⟩ := (Own.start w).addSl (ha.ro (by rfl))
 clear ha
 rcases one_cases g with ⟨h1, h2⟩ | ⟨h1, h3, h2⟩ | ⟨d, rfl, h1, h2⟩
 ·rw [h1, h2]
  clear h1 h2 g
  go_enter Tryz.func82, Tryz.ntmps82
  have tk0 : True := trivial
  go_wp2_with (first
   | go_big_skip
   | (guard_target = wpList _ _ _ (_ :: _) _ _; (first | (refine a15dc6b3 ?_) | (refine a9475ade ?_; intro b2; clear H; (try clear w2); intro w2 H; (clear tk0; rename Nat => c1)))))
  go_ret
  exact ⟨rfl, H.below⟩
 ·rw [h1, h2]
  clear h1 h2 g
  go_enter Tryz.func82, Tryz.ntmps82
  have tk0 : True := trivial
  go_wp2_with (first
   | go_big_skip
   | (guard_target = wpList _ _ _ (_ :: _) _ _; (first | (refine a15dc6b3 ?_) | (refine a9475ade ?_; intro b2; clear H; (try clear w2); intro w2 H; (clear tk0; rename Nat => c1)))))
  go_ret
  exact ⟨rfl, H.below⟩
 ·rw [h1, ← h2]
  have hA := H.rdAddr m0 (by simp [dl])
  subst hA
  have hd : ∀ A b off, (Res.rd A b off (dl [d])).at b off [.int .i64 (d : Int)] := fun A b off => at_rd (j := 0) rfl
  have hd1 := hd (some ⟨b1, o1, none⟩) b1 o1
  clear h1 h2 g hd
  go_enter Tryz.func82, Tryz.ntmps82
  have tk0 : True := trivial
  go_wp2_with (guard_target = wpList _ _ _ (_ :: _) _ _; (first | (refine a15dc6b3 ?_) | (refine a9475ade ?_; intro b2; clear H; (try clear w2); intro w2 H; (clear tk0; rename Nat => c1))))
  go_ret
  exact ⟨by first | rfl | simp, H.below⟩
theorem len_cases {l : List Nat} {z : Int} (g : CnI l z) : (z = 0 ∧ decide (0 < l.length) = false ∧ decide (0 < (l.length : Int)) = false) ∨ (z ≠ 0 ∧ decide (0 < l.length) = true ∧ decide (0 < (l.length : Int)) = true) := by
 by_cases h : z = 0
 ·have := g.nil_iff.2 h
  subst this
  exact .inl ⟨h, rfl, rfl⟩
 ·have : 0 < l.length := List.length_pos_iff.2 fun hl => h (g.nil_iff.1 hl)
  exact .inr ⟨h, by simpa using this, by simp; omega⟩
set_option maxRecDepth 100000 in
set_option maxHeartbeats 4000000 in
theorem ref4Right_any (n d : Int) (hn : R256 n) (hd : R256 d) (w : World) :
  Calls Tryz.prog 63 #[rV n d] w fun e w' => e = .returned (.bool (decide (0 < d ∧ gcdZ n d = 1))) ∧ Below w.heap.size w w' := by
 have H := Own.start w
 have hF : ∀ k : Nat, (fun _ : Nat => False) k → k < w.heap.size := fun k h => h.elim
 have ofn := fun F w hF => refOf_any F w hF n hn
 have ofd := fun F w hF => refOf_any F w hF d hd
 have hG := fun F w hF A1 A2 k1 k2 a b ha hb ga gb => refGcd_any F w hF A1 A2 k1 k2 a b n d (decide (n < 0)) false ha hb ga gb (fit450 hn ga) (fit450 hd gb)
 have hO := fun F w hF A c l ha g => refOne_any F w hF A c l (gcdZ n d) ha g
 obtain ⟨z, hz⟩ : ∃ z : Nat, Nat.gcd n.natAbs d.natAbs = z := ⟨_, rfl⟩
 have ez : gcdZ n d = (z : Int) := congrArg _ hz
 rw [ez] at hO ⊢
 rw [hz] at hG
 rw [natneg] at hO
 clear hz ez
 unfold RetN at ofd
 rcases Int.lt_trichotomy d 0 with h | h | h
 ·have h1 : decide (d < 0) = true := by simpa using h
  have h2 : decide (0 < d ∧ (z : Int) = 1) = false := by simp; omega
  have h0 : d ≠ 0 := by omega
  rw [h2]
  rw [h1] at ofd
  clear h h1 h2
  go_enter Tryz.func63, Tryz.ntmps63
  have tk0 : True := trivial
  have tk1 : True := trivial
  go_wp2_with (first
   | (guard_target = Code.wp _ (Code.region 2 _ true) _ _ _; refine ref04ar1 ?_; clear H; (try clear w2); intro w2 H)
   | (go_at_call 67; (with_reducible refine (ofd (FW (fun _ => False) _) _ (H.fw_lt rfl hF)).mono ?_); rintro e w3 ⟨A5, k5, l5, rfl, hb, s5, g5, q5, p5⟩; replace H := H.ext hb; clear hb; obtain ⟨b5, o5, H4, f5⟩ := H.addSl s5; clear H s5; have H := H4; clear H4; (obtain ⟨_, t1, t2⟩ := (len_cases g5).resolve_left (fun hh => h0 hh.1)); dsimp only; (skip))
   | ((first | guard_target = wpList _ _ _ (_ :: _) _ _ | guard_target = wpTree _ _ _ _ _ _ _); (first | (refine ref04ag4 ?_) | (refine a4d3ac79 ?_; clear H; (try clear w2); intro w2 H) | (refine ad887164 ?_; intro b2; clear H; (try clear w2); intro w2 H; (first | (clear tk0; rename Nat => c1) | (clear tk1; rename Nat => c2))) | (guard_target = wpTree _ _ _ Tr.nil _ _ _; refine tree_nil ?_))))
  go_ret
  exact ⟨rfl, H.below⟩
 ·subst h
  have h2 : decide ((0 : Int) < 0 ∧ (z : Int) = 1) = false := by simp
  rw [h2]
  clear h2
  go_enter Tryz.func63, Tryz.ntmps63
  have tk0 : True := trivial
  have tk1 : True := trivial
  go_wp2_with (first
   | (guard_target = Code.wp _ (Code.region 2 _ true) _ _ _; refine ref04ar1 ?_; clear H; (try clear w2); intro w2 H)
   | (go_at_call 67; (with_reducible refine (ofd (FW (fun _ => False) _) _ (H.fw_lt rfl hF)).mono ?_); rintro e w3 ⟨A5, k5, l5, rfl, hb, s5, g5, q5, p5⟩; replace H := H.ext hb; clear hb; obtain ⟨b5, o5, H4, f5⟩ := H.addSl s5; clear H s5; have H := H4; clear H4; (obtain ⟨_, t1, t2⟩ := (len_cases g5).resolve_right (fun hh => hh.1 rfl)); dsimp only; (skip))
   | ((first | guard_target = wpList _ _ _ (_ :: _) _ _ | guard_target = wpTree _ _ _ _ _ _ _); (first | (refine ref04ag4 ?_) | (refine a4d3ac79 ?_; clear H; (try clear w2); intro w2 H) | (refine ad887164 ?_; intro b2; clear H; (try clear w2); intro w2 H; (first | (clear tk0; rename Nat => c1) | (clear tk1; rename Nat => c2))) | (guard_target = wpTree _ _ _ Tr.nil _ _ _; refine tree_nil ?_))))
  go_ret
  exact ⟨rfl, H.below⟩
 ·have h1 : decide (d < 0) = false := by simp; omega
  have h2 : decide (0 < d ∧ (z : Int) = 1) = decide ((z : Int) = 1) := by simp [h]
  have h0 : d ≠ 0 := by omega
  rw [h2]
  rw [h1] at ofd
  clear h h1 h2
  generalize decide ((z : Int) = 1) = v at *
  go_enter Tryz.func63, Tryz.ntmps63
  have tk0 : True := trivial
  have tk1 : True := trivial
  go_wp2_with (first
   | (guard_target = Code.wp _ (Code.region 2 _ true) _ _ _; refine ref04ar1 ?_; clear H; (try clear w2); intro w2 H)
   | (go_at_call 67; (with_reducible refine (ofd (FW (fun _ => False) _) _ (H.fw_lt rfl hF)).mono ?_); rintro e w3 ⟨A5, k5, l5, rfl, hb, s5, g5, q5, p5⟩; replace H := H.ext hb; clear hb; obtain ⟨b5, o5, H4, f5⟩ := H.addSl s5; clear H s5; have H := H4; clear H4; (obtain ⟨_, t1, t2⟩ := (len_cases g5).resolve_left (fun hh => h0 hh.1)); dsimp only; (skip))
   | (go_at_call 67; (with_reducible refine (ofn (FW (fun _ => False) _) _ (H.fw_lt rfl hF)).mono ?_); rintro e w3 ⟨A6, k6, l6, rfl, hb, s6, g6, q6, p6⟩; replace H := H.ext hb; clear hb; obtain ⟨b6, o6, H4, f6⟩ := H.addSl s6; clear H s6; have H := H4; clear H4; dsimp only; (refine a0f32232 ?_; clear hK K))
   | (go_at_call 83; (with_reducible refine (hG (FW (fun _ => False) _) _ (H.fw_lt rfl hF) _ _ _ _ l6 l5 (aD f6) (aD f5) g6 g5 q6 q5 p6 p5).mono ?_); rintro e w3 ⟨A7, k7, l7, rfl, hb, s7, g7, q7, p7⟩; replace H := H.ext hb; clear hb; obtain ⟨b7, o7, H4, f7⟩ := H.addSl s7; clear H s7; have H := H4; clear H4; dsimp only; (refine a0f32232 ?_; clear hK K))
   | (go_at_call 82; (with_reducible refine (hO (FW (fun _ => False) _) _ (H.fw_lt rfl hF) _ _ l7 (aD f7) g7).mono ?_); rintro e w3 ⟨rfl, hb⟩; replace H := H.ext hb; clear hb; dsimp only; (refine a0f32232 ?_; clear hK K))
   | ((first | guard_target = wpList _ _ _ (_ :: _) _ _ | guard_target = wpTree _ _ _ _ _ _ _); (first | (refine ref04ag4 ?_) | (refine a4d3ac79 ?_; clear H; (try clear w2); intro w2 H) | (refine ad887164 ?_; intro b2; clear H; (try clear w2); intro w2 H; (first | (clear tk0; rename Nat => c1) | (clear tk1; rename Nat => c2))) | (guard_target = wpTree _ _ _ Tr.nil _ _ _; refine tree_nil ?_) | (refine ace93fc0 ?_; intro K hK))))
  go_ret
  exact ⟨rfl, H.below⟩
end Go.Proofs.YtlhmjhildlnokaaGreat
namespace Go.Proofs.YtlhmjhildlnokaaGreat
set_option linter.unusedVariables false
open Go.RowKit
def signZ (x : Int) : Int := if x < 0 then -1 else if x = 0 then 0 else 1
end Go.Proofs.YtlhmjhildlnokaaGreat
namespace Go.Proofs.YtlhmjhildlnokaaGreat
set_option linter.unusedVariables false
set_option linter.unusedSimpArgs false
open Go.RowKit
def mkN (n d : Int) : Int := if d < 0 then -(n.tdiv (gcdZ n d)) else n.tdiv (gcdZ n d)
def mkD (n d : Int) : Int := if d < 0 then -(d.tdiv (gcdZ n d)) else d.tdiv (gcdZ n d)
def mkE (n d : Int) : Int := if d = 0 then 4 else if R256 (gcdZ n d) ∧ R256 (mkN n d) ∧ R256 (mkD n d) then 0 else 3
def mkV (n d : Int) : Value := if mkE n d = 0 then rV (mkN n d) (mkD n d) else rV 0 0
theorem gcd_pos {n d : Int} (hd : d ≠ 0) : 0 < gcdZ n d := by
 unfold gcdZ
 have := Int.gcd_pos_of_ne_zero_right n hd
 omega
theorem sign_tdiv {n d : Int} (hd : d ≠ 0) : signZ (d.tdiv (gcdZ n d)) = signZ d := by
 have hg := gcd_pos (n := n) hd
 have hm : d.tdiv (gcdZ n d) * gcdZ n d = d := Int.tdiv_mul_cancel (Int.gcd_dvd_right n d)
 generalize d.tdiv (gcdZ n d) = q at *
 generalize gcdZ n d = g at *
 unfold signZ
 rcases Int.lt_trichotomy q 0 with h | h | h
 ·have h1 : q * g < 0 := Int.mul_neg_of_neg_of_pos h hg
  rw [if_pos h, if_pos (by omega)]
 ·subst h; rw [Int.zero_mul] at hm; omega
 ·have h1 : 0 < q * g := Int.mul_pos h hg
  rw [if_neg (by omega), if_neg (by omega), if_neg (by omega), if_neg (by omega)]
end Go.Proofs.YtlhmjhildlnokaaGreat
