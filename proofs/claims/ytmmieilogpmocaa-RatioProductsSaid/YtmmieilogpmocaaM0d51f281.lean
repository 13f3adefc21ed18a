/-
  The walks of the document's layer 3: quotients.
-/
import Derived.Test.YtmmieilogpmocaaRef03g
import Derived.Test.YtmmieilogpmocaaRef03p
import Derived.Test.YtmmieilogpmocaaOwn5
import Derived.Test.YtmmieilogpmocaaRef03b
import Derived.Test.YtmmieilogpmocaaOwn6
import Derived.Test.YtmmieilogpmocaaWide16
import Derived.Test.YtmmieilogpmocaaRat1
import Derived.Test.YtmmieilogpmocaaWide12
import Derived.Test.YtmmieilogpmocaaFit
import Derived.Test.YtmmieilogpmocaaDig2
import Derived.Test.YtmmieilogpmocaaReg
namespace Go.Proofs.Ytmmieilogpmocaa
set_option linter.unusedVariables false
set_option linter.unusedSimpArgs false
open Go.RowKit

theorem Try.infoInts : (Try.prog.info? 69).map (fun i => (i.zero, i.size, i.bytes)) = some (some (.slice none 0 0), 1, 24) := by kernel_rfl
/-- The rows: digits of n, 2 n, 4 n, .. -/
def Dbl (F : Nat → Prop) (n : Nat) (L : List Rw) : Prop := ∀ i r, L[i]? = some r → (∃ l, r.xs = dl l ∧ CnI l ((2 ^ i * n : Nat) : Int)) ∧ r.xs.length ≤ r.c ∧ r.c ≤ maxLen ∧ r.xs.length ≤ 451 ∧ (0 < r.xs.length → ¬ F r.b)
theorem Dbl.nil (F : Nat → Prop) (n : Nat) : Dbl F n [] := fun i r h => by simp at h
theorem Dbl.snoc {F : Nat → Prop} {n : Nat} {L : List Rw} (h : Dbl F n L) {A : Option Addr} {b off c : Nat} {l : List Nat} (g : CnI l ((2 ^ L.length * n : Nat) : Int)) (hc : l.length ≤ c) (hm : c ≤ maxLen) (hl : l.length ≤ 451) (hF : 0 < (dl l).length → ¬ F b) :
    Dbl F n (L ++ [⟨A, b, off, dl l, c⟩]) := fun i r hr => by
  rcases Nat.lt_trichotomy i L.length with hi | hi | hi
  · rw [List.getElem?_append_left hi] at hr; exact h i r hr
  · subst hi
    simp at hr
    subst hr
    exact ⟨⟨l, rfl, g⟩, by rw [dl_length]; exact hc, hm, by rw [dl_length]; exact hl, hF⟩
  · rw [List.getElem?_eq_none (by simp; omega)] at hr; cases hr
theorem two_pow_lt {k n m j : Nat} (hn : 0 < n) (h : 2 ^ k * n ≤ m) (hm : m < 65536 ^ j) : k < 16 * j := by
  have h1 : 2 ^ k ≤ 2 ^ k * n := Nat.le_mul_of_pos_right _ hn
  have h2 : (65536 : Nat) ^ j = 2 ^ (16 * j) := by rw [Nat.pow_mul]
  rw [h2] at hm
  exact (Nat.pow_lt_pow_iff_right (by decide)).1 (Nat.lt_of_le_of_lt h1 (Nat.lt_of_le_of_lt h hm))
theorem plusC_any (F : Nat → Prop) (w : World) (hF : ∀ k, F k → k < w.heap.size) (A1 A2 : Option Addr) (c1 c2 : Nat) (a b : List Nat) (m n : Nat) (ha : Sl F w A1 (dl a)) (hb : Sl F w A2 (dl b)) (ga : CnI a m) (gb : CnI b n) (la : a.length ≤ 1000) (lb : b.length ≤ 1000) :
    Calls Try.prog 99 #[.slice A1 a.length c1, .slice A2 b.length c2] w (RetC F w (m + n)) :=
  (plus_full F w hF A1 A2 c1 c2 a b ha hb ga.1 gb.1 la lb).mono fun _ _ h => plus_can ga gb h
/-- A round of the quotient: from twice the divisor to itself. -/
theorem halve_div (a D : Nat) (hD : 0 < D) : (D ≤ a % (2 * D) → a / D = 2 * (a / (2 * D)) + 1 ∧ a % D = a % (2 * D) - D) ∧ (a % (2 * D) < D → a / D = 2 * (a / (2 * D)) ∧ a % D = a % (2 * D)) := by
  have h1 := Nat.div_add_mod a (2 * D)
  have h2 := Nat.mod_lt a (show 0 < 2 * D by omega)
  have h3 : 2 * D * (a / (2 * D)) = D * (2 * (a / (2 * D))) := by rw [Nat.mul_comm 2 D, Nat.mul_assoc]
  generalize a / (2 * D) = q at *
  generalize a % (2 * D) = r at *
  rw [h3] at h1
  constructor
  · intro h
    have e : a = (r - D) + D * (2 * q + 1) := by rw [Nat.mul_add, Nat.mul_one]; omega
    rw [e, Nat.add_mul_div_left _ _ hD, Nat.add_mul_mod_self_left, Nat.div_eq_of_lt (by omega), Nat.mod_eq_of_lt (by omega)]
    omega
  · intro h
    have e : a = r + D * (2 * q) := by omega
    rw [e, Nat.add_mul_div_left _ _ hD, Nat.add_mul_mod_self_left, Nat.div_eq_of_lt h, Nat.mod_eq_of_lt h]
    omega
theorem sgn_quo {x y : Int} {a b : List Nat} (ga : CnI a x) (gb : CnI b y) : sgn (!(decide (x < 0) == decide (y < 0))) (val a / val b) = x.tdiv y := by
  rw [ga.2.2, gb.2.2]; unfold sgn
  by_cases hx : x < 0 <;> by_cases hy : y < 0 <;> simp [hx, hy]
  · rw [show (x.natAbs : Int) = -x by omega, show (y.natAbs : Int) = -y by omega, ← Int.tdiv_eq_ediv_of_nonneg (by omega), Int.neg_tdiv_neg]
  · rw [show (x.natAbs : Int) = -x by omega, show (y.natAbs : Int) = y by omega, ← Int.tdiv_eq_ediv_of_nonneg (by omega), Int.neg_tdiv, Int.neg_neg]
  · rw [show (x.natAbs : Int) = x by omega, show (y.natAbs : Int) = -y by omega, ← Int.tdiv_eq_ediv_of_nonneg (by omega), Int.tdiv_neg, Int.neg_neg]
  · rw [show (x.natAbs : Int) = x by omega, show (y.natAbs : Int) = y by omega, ← Int.tdiv_eq_ediv_of_nonneg (by omega)]
theorem sgn_rest {x y : Int} {a b : List Nat} (ga : CnI a x) (gb : CnI b y) : sgn (decide (x < 0)) (val a % val b) = x.tmod y := by
  rw [ga.2.2, gb.2.2]; unfold sgn
  by_cases hx : x < 0 <;> by_cases hy : y < 0 <;> simp [hx]
  · rw [show (x.natAbs : Int) = -x by omega, show (y.natAbs : Int) = -y by omega, ← Int.tmod_eq_emod_of_nonneg (by omega), Int.neg_tmod, Int.tmod_neg, Int.neg_neg]
  · rw [show (x.natAbs : Int) = -x by omega, show (y.natAbs : Int) = y by omega, ← Int.tmod_eq_emod_of_nonneg (by omega), Int.neg_tmod, Int.neg_neg]
  · rw [show (x.natAbs : Int) = x by omega, show (y.natAbs : Int) = -y by omega, ← Int.tmod_eq_emod_of_nonneg (by omega), Int.tmod_neg]
  · rw [show (x.natAbs : Int) = x by omega, show (y.natAbs : Int) = y by omega, ← Int.tmod_eq_emod_of_nonneg (by omega)]
def DivRel2 (F : Nat → Prop) (w : World) (L : List Rw) (A1 A2 AR : Option Addr) (b1 o1 bR k1 k2 d2 d3 d4 d5 d8 : Nat) (s t : Bool) (a b : List Nat) (k : Nat) (left i : Value) (wr : World) : Prop :=
  ∃ (A Al : Option Addr) (c bq oq cl bl ol : Nat) (lq ll : List Nat), k ≤ L.length ∧ i = .int .i64 ((k : Int) - 1) ∧ left = .slice Al ll.length cl ∧ CnI lq ((val a / (2 ^ k * val b) : Nat) : Int) ∧ CnI ll ((val a % (2 ^ k * val b) : Nat) : Int) ∧
    lq.length ≤ c ∧ c ≤ maxLen ∧ ll.length ≤ cl ∧ cl ≤ maxLen ∧ (0 < (dl lq).length → ¬ F bq) ∧ (0 < (dl ll).length → ¬ F bl) ∧
    Own w.heap.size w wr [.cells d8 [.bool false, .slice A lq.length c], .rd A bq oq (dl lq), .rd Al bl ol (dl ll), .rd AR bR 0 (L.map Rw.val), rws L, .cells d5 [.bool false, .slice none 0 0], .cells d4 [.bool false, .slice none 0 0], .cells d3 [.bool t, .slice A2 b.length k2], .cells d2 [.bool s, .slice A1 a.length k1], .rd A1 b1 o1 (dl a)]
def DivRel (F : Nat → Prop) (w : World) (A1 A2 : Option Addr) (b1 o1 k1 k2 d2 d3 d4 d5 : Nat) (s t : Bool) (a b : List Nat) (k : Nat) (row d : Value) (wr : World) : Prop :=
  ∃ (L : List Rw) (A : Option Addr) (c bd od : Nat) (l : List Nat), k = val a + 1 - val l ∧ d = .slice A l.length c ∧ CnI l ((2 ^ L.length * val b : Nat) : Int) ∧ l.length ≤ c ∧ c ≤ maxLen ∧ l.length ≤ 451 ∧ (0 < (dl l).length → ¬ F bd) ∧ Dbl F (val b) L ∧ L.length ≤ 10000 ∧
    Own w.heap.size w wr [rws L, .rd A bd od (dl l), .grow 69 1 row L.length (L.map Rw.val), .cells d5 [.bool false, .slice none 0 0], .cells d4 [.bool false, .slice none 0 0], .cells d3 [.bool t, .slice A2 b.length k2], .cells d2 [.bool s, .slice A1 a.length k1], .rd A1 b1 o1 (dl a)]
/-- What a function answers whose answers are the numbers z1 and z2. -/
def RetN2 (F : Nat → Prop) (w : World) (z1 z2 : Int) (e : Ending) (w' : World) : Prop :=
  ∃ A c l A' c' l', e = .returned (.tuple #[.agg #[.bool (decide (z1 < 0)), .slice A l.length c], .agg #[.bool (decide (z2 < 0)), .slice A' l'.length c']]) ∧ Below w.heap.size w w' ∧ Sl F w' A (dl l) ∧ CnI l z1 ∧ l.length ≤ c ∧ c ≤ maxLen ∧
    Sl F w' A' (dl l') ∧ CnI l' z2 ∧ l'.length ≤ c' ∧ c' ≤ maxLen
set_option maxRecDepth 100000 in
set_option maxHeartbeats 8000000 in
theorem refDiv_any (F : Nat → Prop) (w : World) (hF : ∀ k, F k → k < w.heap.size) (A1 A2 : Option Addr) (k1 k2 : Nat) (a b : List Nat) (x y : Int) (ha : Sl F w A1 (dl a)) (hb : Sl F w A2 (dl b)) (ga : CnI a x) (gb : CnI b y) (la : a.length ≤ 450) (lb : b.length ≤ 450)
    (ma : a.length ≤ k1) (mb : b.length ≤ k2) (ma2 : k1 ≤ maxLen) (mb2 : k2 ≤ maxLen) (hy : y ≠ 0) :
    Calls Try.prog 69 #[.agg #[.bool (decide (x < 0)), .slice A1 a.length k1], .agg #[.bool (decide (y < 0)), .slice A2 b.length k2]] w (RetN2 F w (x.tdiv y) (x.tmod y)) := by
  obtain ⟨b2, o2, H2, f2⟩ := (Own.start w).addSl (hb.ro (by rfl))
  obtain ⟨b1, o1, H, f1⟩ := H2.addSl (ha.ro (by rfl))
  clear ha hb H2
  have ga1 := ga.1
  have gb1 := gb.1
  have VB : 0 < val b := by rw [gb.2.2]; omega
  obtain ⟨s, hs⟩ : ∃ s, decide (x < 0) = s := ⟨_, rfl⟩
  obtain ⟨t, ht⟩ : ∃ t, decide (y < 0) = t := ⟨_, rfl⟩
  have hz1 := sgn_quo ga gb
  have hz2 := sgn_rest (b := b) ga gb
  rw [hs, ht] at hz1
  rw [hs] at hz2
  rw [hs, ht]
  have HZ1 := Lib.hid hz1
  have HZ2 := Lib.hid hz2
  clear hs ht hz1 hz2
  go_enter Try.func69, Try.ntmps69
  have kf := field_num1
  have tk0 : True := trivial
  have tk1 : True := trivial
  have tk2 : True := trivial
  have tk3 : True := trivial
  go_wp2_with (first
    | (go_at_call 97; (with_reducible refine (trimC_any (FW F _) _ (H.fw_lt rfl hF) _ _ b (H.giveRd m5 f2) gb1 (by omega) mb mb2).mono ?_); rintro e w3 ⟨A3, k3, l3, rfl, hb, s3, g3, q2, q3⟩; replace H := H.ext hb; clear hb; obtain ⟨b4, o4, H4, f4⟩ := H.addSl s3; clear H s3; have H := H4; clear H4; dsimp only)
    | (guard_target =~ wpList _ _ _ (_ :: _) _ _; (first | (guard_target =~ wpList _ _ _ (Oper.mk _ (.load _ _) _ _ _ _ :: _) _ _; refine BigFrame.wpList_want rfl (fun K hK => ?_); (refine o_loadC (v := ?_) (row := ?_) rfl rfl H ?_ ?_ ?_ (hK _ _ ?_); rotate_left 2; (repeat first | exact .head _ | apply List.Mem.tail); (exact rfl); (focus (intro _; simp; done))); clear hK K) | ((first | (guard_target =~ wpList _ _ _ (Oper.mk _ (.alloc _) _ _ _ _ :: _) _ _; refine BigFrame.wpList_want rfl (fun K hK => ?_); refine o_alloc (z := ?_) rfl ?_ H rfl (fun w3 b2 he H2 => hK _ _ ?_); rotate_left 1; (focus (intro _; simp; with_reducible exact rfl))) | (guard_target =~ wpList _ _ _ (Oper.mk _ (.box _ _) _ _ _ _ :: _) _ _; refine BigFrame.wpList_want rfl (fun K hK => ?_); refine o_box rfl H rfl (fun w3 b2 he H2 => hK _ _ ?_))); clear hK K he; clear H; (try clear w2); revert w3; intro w2 H; simp [Act.eval, Value.cells, setL, List.getD] at H; (first | (clear tk0; rename Nat => d2) | (clear tk1; rename Nat => d3) | (clear tk2; rename Nat => d4) | (clear tk3; rename Nat => d5)))); simp only [Act.put, List.setIfInBounds_toArray, List.set_cons_succ, List.set_cons_zero]))
  go_loopg [6, 7] (val a + 1 - val b) (DivRel F w A1 A2 b1 o1 k1 k2 d2 d3 d4 d5 s t a b)
  case atStart =>
    have hv := g3.2.2
    rw [Int.natAbs_natCast] at hv
    have hl3 : l3.length ≤ b.length := g3.len_le (K := b.length) (by rw [Int.natAbs_natCast]; exact val_lt gb1)
    refine ⟨[], A3, k3, b4, o4, l3, by rw [hv], rfl, by simpa using g3, q2, q3, by omega, f4, Dbl.nil F _, by simp, ?_⟩
    exact ((H.sub (.cons_cons _ (.cons_cons _ (.cons_cons _ (.cons_cons _ (.cons_cons _ (.cons_cons _ (.cons _ (.refl _))))))))).grow_nil 69 1).swap.rws_nil
  case round =>
    clear H
    obtain ⟨L, A, c, bd, od, l, hk, rfl, gl, hc, hm, hll, fl, hD, hLL, H⟩ := hrel
    have HKK := Lib.hid hk
    clear hk
    have hvl := gl.2.2
    rw [Int.natAbs_natCast] at hvl
    have hS : ∀ (F : Nat → Prop) (w : World) (hF : ∀ k, F k → k < w.heap.size) (A A' : Option Addr) (ha : Sl F w A (dl l)) (hb : Sl F w A' (dl a)), Calls Try.prog 98 #[.slice A l.length c, .slice A' a.length k1] w fun e w' => e = .returned (.int .i64 (cmpN (2 ^ L.length * val b) (val a))) ∧ Below w.heap.size w w' := by
      intro F w hF A A' ha' hb'
      have h := size_any F w hF A A' c k1 l a _ x ha' hb' gl ga (by omega) (by omega)
      rw [Int.natAbs_natCast, ← ga.2.2] at h
      exact h
    obtain ⟨q, hq⟩ : ∃ q, cmpN (2 ^ L.length * val b) (val a) = q := ⟨_, rfl⟩
    rw [hq] at hS
    by_cases hle : 2 ^ L.length * val b ≤ val a
    · have hq0 : decide (q ≤ 0) = true := by
        rw [← hq]; unfold cmpN; split
        · rfl
        · rw [if_neg (by omega)]; rfl
      have HLE := Lib.hid hle
      have hln : l.length ≤ a.length := gl.len_le (by rw [Int.natAbs_natCast]; exact Nat.lt_of_le_of_lt hle (val_lt ga1))
      have hK : L.length < 16 * a.length := two_pow_lt VB hle (val_lt ga1)
      have HP : ∀ (F : Nat → Prop) (w : World) (hF : ∀ k, F k → k < w.heap.size) (A A' : Option Addr) (ha : Sl F w A (dl l)) (hb : Sl F w A' (dl l)), Calls Try.prog 99 #[.slice A l.length c, .slice A' l.length c] w (RetC F w (2 ^ (L.length + 1) * val b)) := by
        intro F w hF A A' ha' hb'
        have h := plusC_any F w hF A A' c c l l _ _ ha' hb' gl gl (by omega) (by omega)
        rw [show 2 ^ L.length * val b + 2 ^ L.length * val b = 2 ^ (L.length + 1) * val b by rw [Nat.pow_succ, Nat.mul_assoc, Nat.mul_comm 2, ← Nat.mul_assoc]; omega] at h
        exact h
      clear hq hle hvl
      go_wp2_with (first
        | (go_at_call 98; (with_reducible refine (hS (FW F _) _ (H.fw_lt rfl hF) _ _ (H.giveRd m1 fl) (H.giveRd m7 f1)).mono ?_); rintro e w3 ⟨rfl, hb⟩; replace H := H.ext hb; clear hb; dsimp only)
        | (go_at_call 99; (with_reducible refine (HP (FW F _) _ (H.fw_lt rfl hF) _ _ (H.giveRd m2 fl) (H.giveRd m2 fl)).mono ?_); rintro e w3 ⟨A4, c4, l4, rfl, hb, s4, g4, q4, q5⟩; replace H := H.ext hb; clear hb; obtain ⟨b5, o5, H4, f5⟩ := H.addSl s4; clear H s4; have H := H4; clear H4; dsimp only)
        | (guard_target =~ wpList _ _ _ (_ :: _) _ _; (first | (guard_target =~ wpList _ _ _ (Oper.mk _ (.call { callee := .builtin .append, args := _, argTypes := _ }) _ _ _ _ :: _) _ _; refine BigFrame.wpList_want rfl (fun K hK => ?_); refine o_append (row := ?_) (n := ?_) (xs := ?_) (l' := ?_) Try.infoInts rfl rfl rfl H ?_ rfl ?_ ?_ (by kernel_rfl) rfl (by decide) ?_ ?_ ?_ (fun v2 w3 H2 hn => hK _ _ ?_); rotate_left 4; (repeat first | exact .head _ | apply List.Mem.tail); (focus (simp; done)); (focus (intro _; (exact r3))); exact rfl; exact (by unfold maxLen; omega); exact (by omega); clear hK K hn; clear H; (try clear w2); revert w3; intro w2 H; simp only [List.take_succ_cons, List.take_zero, Nat.one_mul] at H) | (guard_target =~ wpList _ _ _ (Oper.mk _ (.load _ _) _ _ _ _ :: _) _ _; refine BigFrame.wpList_want rfl (fun K hK => ?_); (refine o_loadC (v := ?_) (row := ?_) rfl rfl H ?_ ?_ ?_ (hK _ _ ?_); rotate_left 2; (repeat first | exact .head _ | apply List.Mem.tail); (exact rfl); (focus (intro _; simp; done))); clear hK K) | ((guard_target =~ wpList _ _ _ (Oper.mk _ (.buildSlice _ _ _) _ _ _ _ :: _) _ _; refine BigFrame.wpList_want rfl (fun K hK => ?_); refine o_buildSlice (C := ?_) (E := ?_) rfl rfl H ?_ rfl (fun w3 b2 he H2 => hK _ _ ?_); rotate_left 2; (focus (intro _; simp [go_sem, Instr.buildSlice]; with_reducible exact rfl))); clear hK K he; clear H; (try clear w2); revert w3; intro w2 H; simp [Act.eval, Value.cells, setL, List.getD] at H)); simp only [Act.put, List.setIfInBounds_toArray, List.set_cons_succ, List.set_cons_zero]))
      have hv4 := g4.2.2
      rw [Int.natAbs_natCast] at hv4
      have e2 : 2 ^ (L.length + 1) * val b = 2 * (2 ^ L.length * val b) := by rw [Nat.pow_succ, Nat.mul_comm (2 ^ L.length) 2, Nat.mul_assoc]
      have hl4 : l4.length ≤ 451 := by
        have : l4.length ≤ a.length + 1 := g4.len_le (by
          rw [Int.natAbs_natCast, e2, Nat.pow_succ]
          have := val_lt ga1
          have h2 := HLE.out
          omega)
        omega
      have hvl := gl.2.2
      rw [Int.natAbs_natCast] at hvl
      go_roundg (val a + 1 - val l4)
      case rel =>
        refine ⟨L ++ [⟨A, bd, od, dl l, c⟩], A4, c4, b5, o5, l4, rfl, rfl, by rw [List.length_append]; exact g4, q4, q5, hl4, f5, hD.snoc gl hc hm hll fl, by rw [List.length_append]; simp; omega, ?_⟩
        have H := H.push m2 m3 c
        rw [List.length_append, List.map_append]
        simp only [List.length_cons, List.length_nil, List.map_cons, List.map_nil, Rw.val, dl_length]
        exact H.sub (.cons_cons _ (.cons_cons _ (.cons _ (.cons _ (.cons _ (.refl _))))))
      case measure =>
        have h1 := HKK.out
        have h2 := HLE.out
        have h3 : 0 < 2 ^ L.length * val b := Nat.mul_pos (Nat.pow_pos (by omega)) VB
        omega
    · have hq0 : decide (q ≤ 0) = false := by
        rw [← hq]; unfold cmpN; rw [if_neg (by omega), if_pos (by omega)]; rfl
      have HLE := Lib.hid hle
      clear hq hle hvl
      obtain ⟨AR, bR, cR, rfl, hcR, hcR2, H, hBR⟩ := H.front2.growRd
      have hBR := fun h => Nat.not_lt.2 (hBR h)
      have tk0 : True := trivial
      go_wp2_with (first
        | (go_at_call 98; (with_reducible refine (hS (FW F _) _ (H.fw_lt rfl hF) _ _ (H.giveRd m2 fl) (H.giveRd m7 f1)).mono ?_); rintro e w3 ⟨rfl, hb⟩; replace H := H.ext hb; clear hb; dsimp only)
        | (guard_target =~ wpList _ _ _ (_ :: _) _ _; (first | (guard_target =~ wpList _ _ _ (Oper.mk _ (.load _ _) _ _ _ _ :: _) _ _; refine BigFrame.wpList_want rfl (fun K hK => ?_); (refine o_loadC (v := ?_) (row := ?_) rfl rfl H ?_ ?_ ?_ (hK _ _ ?_); rotate_left 2; (repeat first | exact .head _ | apply List.Mem.tail); (exact rfl); (focus (intro _; simp; done))); clear hK K) | (guard_target =~ wpList _ _ _ (Oper.mk _ (.store _ _ _) _ _ _ _ :: _) _ _; refine BigFrame.wpList_want rfl (fun K hK => ?_); refine o_store (l' := ?_) (row := ?_) rfl rfl H rfl ?_ ?_ ?_ ?_ (fun w3 H2 => hK _ _ ?_); rotate_left 2; (exact r0); (focus (intro _; simp [Act.eval, Value.cells]; done)); (focus (simp [Act.eval, Value.cells]; done)); (exact rfl); clear hK K; clear H; (try clear w2); revert w3; intro w2 H; simp [Act.eval, Value.cells, setL, List.getD] at H) | ((guard_target =~ wpList _ _ _ (Oper.mk _ (.alloc _) _ _ _ _ :: _) _ _; refine BigFrame.wpList_want rfl (fun K hK => ?_); refine o_alloc (z := ?_) rfl ?_ H rfl (fun w3 b2 he H2 => hK _ _ ?_); rotate_left 1; (focus (intro _; simp; with_reducible exact rfl))); clear hK K he; clear H; (try clear w2); revert w3; intro w2 H; simp [Act.eval, Value.cells, setL, List.getD] at H; (clear tk0; rename Nat => d8))); simp only [Act.put, List.setIfInBounds_toArray, List.set_cons_succ, List.set_cons_zero]))
      go_loopg [9, 10] L.length (DivRel2 F w L A1 A2 AR b1 o1 bR k1 k2 d2 d3 d4 d5 d8 s t a b)
      case atStart =>
        have hlt : val a < 2 ^ L.length * val b := Nat.lt_of_not_le HLE.out
        refine ⟨none, A1, 0, 0, 0, k1, b1, o1, [], a, Nat.le_refl _, rfl, rfl, ?_, ?_, Nat.le_refl _, by unfold maxLen; omega, ma, ma2, fun h => by simp [dl] at h, f1, ?_⟩
        · rw [Nat.div_eq_of_lt hlt]; exact CnI.zero
        · rw [Nat.mod_eq_of_lt hlt]; exact ⟨ga1, ga.2.1, by rw [Int.natAbs_natCast]⟩
        · exact ((H.copy m8 rfl).rdNil none 0 0).front2.sub (.cons_cons _ (.cons_cons _ (.cons_cons _ (.cons_cons _ (.cons_cons _ (.cons _ (.refl _)))))))
      case round =>
        clear H hS hq0
        obtain ⟨A, Al, c, bq, oq, cl, bl, ol, lq, ll, hk, rfl, rfl, gq, gl, hc1, hc2, hl1, hl2, fq, fl, H⟩ := hrel
        by_cases h0 : 0 < gk
        · obtain ⟨j, rfl⟩ : ∃ j, gk = j + 1 := ⟨gk - 1, by omega⟩
          have e1 : ((j + 1 : Nat) : Int) - 1 = (j : Int) := by omega
          rw [e1]
          clear e1
          have hj : j < L.length := by omega
          obtain ⟨⟨rA, rb, ro, rxs, rc⟩, hr⟩ : ∃ r, L[j]? = some r := ⟨_, List.getElem?_eq_getElem hj⟩
          obtain ⟨⟨lr, hxs, gr⟩, hr1, hr2, hr3, hr4⟩ := hD j _ hr
          simp only at hxs hr1 hr2 hr3 hr4
          subst hxs
          rw [dl_length] at hr1 hr3
          obtain rfl := H.rdAddr m3 (by simp; omega)
          have ldR : (Res.rd (some ⟨bR, 0, none⟩) bR 0 (L.map Rw.val)).at bR (0 + j) [.slice rA lr.length rc] := at_rd (by simp [hr, Rw.val, dl_length])
          rw [Nat.zero_add] at ldR
          have H := H.pick m4 (List.mem_of_getElem? hr)
          simp only at H
          obtain ⟨D, hDD⟩ : ∃ D, 2 ^ j * val b = D := ⟨_, rfl⟩
          have hDp : 0 < D := by rw [← hDD]; exact Nat.mul_pos (Nat.pow_pos (by omega)) VB
          have e2 : 2 ^ (j + 1) * val b = 2 * D := by rw [← hDD, Nat.pow_succ, Nat.mul_comm (2 ^ j) 2, Nat.mul_assoc]
          rw [e2] at gq gl
          rw [hDD] at gr
          have hh := halve_div (val a) D hDp
          have hlq : lq.length ≤ a.length := gq.len_of (Nat.div_le_self _ _) (val_lt ga1)
          have hll' : ll.length ≤ a.length := gl.len_of (Nat.mod_le _ _) (val_lt ga1)
          have hR0 := Nat.mod_le (val a) (2 * D)
          obtain ⟨Q, hQ⟩ : ∃ Q, val a / (2 * D) = Q := ⟨_, rfl⟩
          obtain ⟨R, hR⟩ : ∃ R, val a % (2 * D) = R := ⟨_, rfl⟩
          rw [hQ] at gq hh
          rw [hR] at gl hh hR0
          have HR0 := Lib.hid hR0
          have vll : val ll = R := by have := gl.2.2; rwa [Int.natAbs_natCast] at this
          have vlr : val lr = D := by have := gr.2.2; rwa [Int.natAbs_natCast] at this
          have HDD := Lib.hid hDD
          have HQ := Lib.hid hQ
          have HR := Lib.hid hR
          have gll := gl.1
          have HA := fun (F : Nat → Prop) (w : World) hF A A' ha hb => addNn_any F w hF A A' c c lq lq Q Q (2 * Q) gq gq (by omega) ha hb (by omega) (by omega) hc1 hc1
          have HT := fun (F : Nat → Prop) (w : World) hF A' ha => trimNn_any F w hF A' cl ll R vll ha gll (by omega) hl1 hl2
          obtain ⟨q2, hq2⟩ : ∃ q2, cmpN D R = q2 := ⟨_, rfl⟩
          have HS : ∀ (F : Nat → Prop) (w : World) (hF : ∀ k, F k → k < w.heap.size) (A A' : Option Addr) (c' : Nat) (l' : List Nat) (g' : CnI l' (R : Int)) (ha : Sl F w A (dl lr)) (hb : Sl F w A' (dl l')), Calls Try.prog 98 #[.slice A lr.length rc, .slice A' l'.length c'] w fun e w' => e = .returned (.int .i64 q2) ∧ Below w.heap.size w w' := by
            intro F w hF A A' c' l' g' ha' hb'
            have hl' : l'.length ≤ a.length := g'.len_of HR0.out (val_lt ga1)
            have h := size_any F w hF A A' rc c' lr l' _ _ ha' hb' gr g' (by omega) (by omega)
            rw [Int.natAbs_natCast, Int.natAbs_natCast, hq2] at h
            exact h
          by_cases hle : D ≤ R
          · have hq0 : decide (q2 ≤ 0) = true := by
              rw [← hq2]; unfold cmpN; split
              · rfl
              · rw [if_neg (by omega)]; rfl
            have HH := Lib.hid (hh.1 hle)
            have hlen : lr.length ≤ ll.length := len_le_of_val gr gl (by rw [vll, vlr]; exact hle)
            have HM := fun (F : Nat → Prop) (w : World) hF A A' ha hb => minus_any F w hF A A' cl rc ll lr ha hb gll gr.1 (by omega) hlen (by rw [vll, vlr]; exact hle)
            rw [vll, vlr] at HM
            have hlq2 : ∀ l' : List Nat, CnI l' ((2 * Q : Nat) : Int) → l'.length ≤ 900 := fun l' g' => by
              have : l'.length ≤ a.length + 1 := g'.len_of (m := 2 * val a) (by rw [← HQ.out]; have := Nat.div_le_self (val a) (2 * D); omega) (by have := val_lt ga1; rw [Nat.pow_succ]; omega)
              omega
            have H1 : ∀ (F : Nat → Prop) (w : World) (hF : ∀ k, F k → k < w.heap.size) (A A' : Option Addr) (c' : Nat) (l' : List Nat) (g' : CnI l' ((2 * Q : Nat) : Int)) (hc' : l'.length ≤ c') (ha : Sl F w A (dl l')) (hb : Sl F w A' (dl [1])), Calls Try.prog 70 #[.agg #[.bool false, .slice A l'.length c'], .agg #[.bool false, .slice A' 1 1]] w (RetNn F w (2 * Q + 1)) :=
              fun F w hF A A' c' l' g' hc' ha hb => addNn_any F w hF A A' c' 1 l' [1] (2 * Q) 1 (2 * Q + 1) g' ⟨by intro d hd; simp at hd; omega, by intro h; simp, rfl⟩ rfl ha hb (hlq2 l' g') (by simp) hc' (by simp)
            clear hq2 hle hh hQ hR hDD vll vlr hlen hR0 e2
            have kf := field_num1
            go_wp2_with (first
              | (go_at_call 70; have n1 := H.notF m0 hF; replace H := H.toRd; (with_reducible refine (H1 (FW F _) _ (H.fw_lt rfl hF) _ _ _ l5 g5 q5 (H.giveRd m4 f5) (H.giveRd m0 (fun _ => n1))).mono ?_); rintro e w3 ⟨A9, c9, l9, rfl, hb, s9, g9, q9, p9⟩; replace H := H.ext hb; clear hb; obtain ⟨b9, o9, H4, f9⟩ := H.addSl s9; clear H s9; have H := H4; clear H4; dsimp only; (skip))
              | (go_at_call 70; (with_reducible refine (HA (FW F _) _ (H.fw_lt rfl hF) _ _ (H.giveRd m2 fq) (H.giveRd m2 fq)).mono ?_); rintro e w3 ⟨A5, c5, l5, rfl, hb, s5, g5, q5, p5⟩; replace H := H.ext hb; clear hb; obtain ⟨b5, o5, H4, f5⟩ := H.addSl s5; clear H s5; have H := H4; clear H4; dsimp only; (skip))
              | (guard_target =~ Code.wp _ (Code.region 12 _ true) _ _ _; refine region_tree0 12 (G := True) (.q 0 (.q 1 (.q 2 (.q 3 (.q 4 (.q 5 (.e 6 (.q 7 (.e 8 (.q 9 .nil)))))))))) (by kernel_rfl) (by intro c a d v w h; cases d <;> exact h) (by kernel_rfl) H ⟨trivial⟩ (fun _ w3 H2 => ?_); (clear H; (try clear w2); revert w3; intro w2 H))
              | (go_at_call 97; (with_reducible refine (HT (FW F _) _ (H.fw_lt rfl hF) _ (H.giveRd m4 fl)).mono ?_); rintro e w3 ⟨A6, c6, l6, rfl, hb, s6, g6, q6, p6⟩; replace H := H.ext hb; clear hb; obtain ⟨b6, o6, H4, f6⟩ := H.addSl s6; clear H s6; have H := H4; clear H4; dsimp only; (refine hK _ _ ⟨_, H, by repeat first | exact .here | apply Suf.there⟩ ?_; clear hK K; (try simp only [Act.put, List.setIfInBounds_toArray, List.set_cons_succ, List.set_cons_zero])))
              | (go_at_call 98; (with_reducible refine (HS (FW F _) _ (H.fw_lt rfl hF) _ _ _ l6 g6 (H.giveRd m2 hr4) (H.giveRd m0 f6)).mono ?_); rintro e w3 ⟨rfl, hb⟩; replace H := H.ext hb; clear hb; dsimp only; (refine hK _ _ ⟨_, H, by repeat first | exact .here | apply Suf.there⟩ ?_; clear hK K; (try simp only [Act.put, List.setIfInBounds_toArray, List.set_cons_succ, List.set_cons_zero])))
              | (go_at_call 100; (with_reducible refine (HM (FW F _) _ (H.fw_lt rfl hF) _ _ (H.giveRd m5 fl) (H.giveRd m2 hr4)).mono ?_); rintro e w3 ⟨A7, c7, l7, rfl, hb, s7, g7, v7, len7, q7, p7⟩; replace H := H.ext hb; clear hb; obtain ⟨b7, o7, H4, f7⟩ := H.addSl s7; clear H s7; have H := H4; clear H4; dsimp only; (skip))
              | (go_at_call 97; (with_reducible refine (trimNn_any (FW F _) _ (H.fw_lt rfl hF) _ _ l7 _ v7 (H.giveRd m0 f7) g7 (by omega) q7 p7).mono ?_); rintro e w3 ⟨A8, c8, l8, rfl, hb, s8, g8, q8, p8⟩; replace H := H.ext hb; clear hb; obtain ⟨b8, o8, H4, f8⟩ := H.addSl s8; clear H s8; have H := H4; clear H4; dsimp only; (skip))
              | (guard_target =~ wpList _ _ _ (_ :: _) _ _; (first | (guard_target =~ wpList _ _ _ (Oper.mk _ (.load _ _) _ _ _ _ :: _) _ _; refine BigFrame.wpList_want rfl (fun K hK => ?_); (first | (refine o_load (v := ?_) (r := ?_) rfl rfl H ?_ ?_ ?_ (hK _ _ ?_); rotate_left 2; (with_reducible assumption); (repeat first | exact .head _ | apply List.Mem.tail); (focus (intro _; simp; done))) | (refine o_loadNC (row := ?_) rfl rfl H ?_ ?_ ?_ (hK _ _ ?_); rotate_left 1; (repeat first | exact .head _ | apply List.Mem.tail); (focus (intro _; simp; done)); (focus (intro _; simp; done)))); clear hK K) | (guard_target =~ wpList _ _ _ (Oper.mk _ (.store _ _ _) _ _ _ _ :: _) _ _; refine BigFrame.wpList_want rfl (fun K hK => ?_); refine o_store (l' := ?_) (row := ?_) rfl rfl H rfl ?_ ?_ ?_ ?_ (fun w3 H2 => hK _ _ ?_); rotate_left 2; (first | exact r2 | exact r7); (focus (intro _; simp [Act.eval, Value.cells]; done)); (focus (simp [Act.eval, Value.cells]; done)); (exact rfl); clear hK K; clear H; (try clear w2); revert w3; intro w2 H; simp [Act.eval, Value.cells, setL, List.getD] at H) | ((guard_target =~ wpList _ _ _ (Oper.mk _ (.buildSlice _ _ _) _ _ _ _ :: _) _ _; refine BigFrame.wpList_want rfl (fun K hK => ?_); refine o_buildSlice (C := ?_) (E := ?_) rfl rfl H ?_ rfl (fun w3 b2 he H2 => hK _ _ ?_); rotate_left 2; (focus (intro _; simp [go_sem, Instr.buildSlice]; with_reducible exact rfl))); clear hK K he; clear H; (try clear w2); revert w3; intro w2 H; simp [Act.eval, Value.cells, setL, List.getD] at H)); simp only [Act.put, List.setIfInBounds_toArray, List.set_cons_succ, List.set_cons_zero])
              | (guard_target =~ wpTree _ _ _ _ _ _ _; first | (guard_target =~ wpTree _ _ _ (Tr.q _ _) _ _ _; first | (refine tree_quiet ⟨_, H, by repeat first | exact .here | apply Suf.there⟩ rfl rfl rfl (fun K hK => ?_); simp only [List.getElem_toArray, List.getElem_cons_succ, List.getElem_cons_zero]; first | (guard_target =~ Oper.quiet _ (Oper.mk _ (.load _ _) _ _ _ _) _ _ _; (refine q_load (v := ?_) (r := ?_) rfl rfl ?_ ?_ ?_ (hK _ ?_); rotate_left 2; (with_reducible assumption); (repeat first | exact .head _ | apply List.Mem.tail); (focus (intro _; simp; done))); clear hK K; simp only [Act.put, List.setIfInBounds_toArray, List.set_cons_succ, List.set_cons_zero]) | (go_big_quiet_op; (try refine ⟨_, fun _ _ => rfl, ?_⟩); refine hK _ ?_; clear hK K)) | (refine tree_skip ⟨_, H, by repeat first | exact .here | apply Suf.there⟩ rfl rfl ?_; simp only [List.getElem_toArray, List.getElem_cons_succ, List.getElem_cons_zero, Act.put, List.setIfInBounds_toArray, List.set_cons_succ, List.set_cons_zero])) | (guard_target =~ wpTree _ _ _ (Tr.both _ _) _ _ _; refine tree_both ?_ ?_) | (guard_target =~ wpTree _ _ _ (Tr.e _ _) _ _ _; first | (refine tree_one rfl rfl (fun K hK => ?_); simp only [List.getElem_toArray, List.getElem_cons_succ, List.getElem_cons_zero]; first | ((first | fail); simp only [Act.put, List.setIfInBounds_toArray, List.set_cons_succ, List.set_cons_zero]) | go_big_op) | (refine tree_one_skip ⟨_, H, by repeat first | exact .here | apply Suf.there⟩ rfl rfl ?_; simp only [List.getElem_toArray, List.getElem_cons_succ, List.getElem_cons_zero, Act.put, List.setIfInBounds_toArray, List.set_cons_succ, List.set_cons_zero])) | (guard_target =~ wpTree _ _ _ Tr.nil _ _ _; refine tree_nil ?_)))
            go_roundg j
            case rel =>
              refine ⟨A9, A8, c9, b9, o9, c8, b8, o8, l9, l8, by omega, rfl, rfl, ?_, ?_, q9, p9, q8, p8, f9, f8, ?_⟩
              · rw [HDD.out, HH.out.1]; exact g9
              · rw [HDD.out, HH.out.2]; exact g8
              · exact (H.sub (.cons_cons _ (.cons _ (.cons_cons _ (.cons _ (.cons _ (.cons _ (.cons _ (.cons_cons _ (.cons _ (.cons _ (.refl _)))))))))))).front2
            case measure => omega
          · have hq0 : decide (q2 ≤ 0) = false := by
              rw [← hq2]; unfold cmpN; rw [if_neg (by omega), if_pos (by omega)]; rfl
            have HH := Lib.hid (hh.2 (by omega))
            clear hq2 hle hh hQ hR hDD vll vlr hR0 e2
            have kf := field_num1
            go_wp2_with (first
              | (go_at_call 70; (with_reducible refine (HA (FW F _) _ (H.fw_lt rfl hF) _ _ (H.giveRd m2 fq) (H.giveRd m2 fq)).mono ?_); rintro e w3 ⟨A5, c5, l5, rfl, hb, s5, g5, q5, p5⟩; replace H := H.ext hb; clear hb; obtain ⟨b5, o5, H4, f5⟩ := H.addSl s5; clear H s5; have H := H4; clear H4; dsimp only; (skip))
              | (guard_target =~ Code.wp _ (Code.region 12 _ true) _ _ _; refine region_tree0 12 (G := True) (.q 0 (.q 1 (.q 2 (.q 3 (.q 4 (.q 5 (.e 6 (.q 7 (.e 8 (.q 9 .nil)))))))))) (by kernel_rfl) (by intro c a d v w h; cases d <;> exact h) (by kernel_rfl) H ⟨trivial⟩ (fun _ w3 H2 => ?_); (clear H; (try clear w2); revert w3; intro w2 H))
              | (go_at_call 97; (with_reducible refine (HT (FW F _) _ (H.fw_lt rfl hF) _ (H.giveRd m4 fl)).mono ?_); rintro e w3 ⟨A6, c6, l6, rfl, hb, s6, g6, q6, p6⟩; replace H := H.ext hb; clear hb; obtain ⟨b6, o6, H4, f6⟩ := H.addSl s6; clear H s6; have H := H4; clear H4; dsimp only; (refine hK _ _ ⟨_, H, by repeat first | exact .here | apply Suf.there⟩ ?_; clear hK K; (try simp only [Act.put, List.setIfInBounds_toArray, List.set_cons_succ, List.set_cons_zero])))
              | (go_at_call 98; (with_reducible refine (HS (FW F _) _ (H.fw_lt rfl hF) _ _ _ l6 g6 (H.giveRd m2 hr4) (H.giveRd m0 f6)).mono ?_); rintro e w3 ⟨rfl, hb⟩; replace H := H.ext hb; clear hb; dsimp only; (refine hK _ _ ⟨_, H, by repeat first | exact .here | apply Suf.there⟩ ?_; clear hK K; (try simp only [Act.put, List.setIfInBounds_toArray, List.set_cons_succ, List.set_cons_zero])))
              | (guard_target =~ wpList _ _ _ (_ :: _) _ _; (first | (guard_target =~ wpList _ _ _ (Oper.mk _ (.load _ _) _ _ _ _ :: _) _ _; refine BigFrame.wpList_want rfl (fun K hK => ?_); (refine o_loadNC (row := ?_) rfl rfl H ?_ ?_ ?_ (hK _ _ ?_); rotate_left 1; (repeat first | exact .head _ | apply List.Mem.tail); (focus (intro _; simp; done)); (focus (intro _; simp; done))); clear hK K) | (guard_target =~ wpList _ _ _ (Oper.mk _ (.store _ _ _) _ _ _ _ :: _) _ _; refine BigFrame.wpList_want rfl (fun K hK => ?_); refine o_store (l' := ?_) (row := ?_) rfl rfl H rfl ?_ ?_ ?_ ?_ (fun w3 H2 => hK _ _ ?_); rotate_left 2; (exact r2); (focus (intro _; simp [Act.eval, Value.cells]; done)); (focus (simp [Act.eval, Value.cells]; done)); (exact rfl); clear hK K; clear H; (try clear w2); revert w3; intro w2 H; simp [Act.eval, Value.cells, setL, List.getD] at H)); simp only [Act.put, List.setIfInBounds_toArray, List.set_cons_succ, List.set_cons_zero])
              | (guard_target =~ wpTree _ _ _ _ _ _ _; first | (guard_target =~ wpTree _ _ _ (Tr.q _ _) _ _ _; first | (refine tree_quiet ⟨_, H, by repeat first | exact .here | apply Suf.there⟩ rfl rfl rfl (fun K hK => ?_); simp only [List.getElem_toArray, List.getElem_cons_succ, List.getElem_cons_zero]; first | (guard_target =~ Oper.quiet _ (Oper.mk _ (.load _ _) _ _ _ _) _ _ _; (refine q_load (v := ?_) (r := ?_) rfl rfl ?_ ?_ ?_ (hK _ ?_); rotate_left 2; (with_reducible assumption); (repeat first | exact .head _ | apply List.Mem.tail); (focus (intro _; simp; done))); clear hK K; simp only [Act.put, List.setIfInBounds_toArray, List.set_cons_succ, List.set_cons_zero]) | (go_big_quiet_op; (try refine ⟨_, fun _ _ => rfl, ?_⟩); refine hK _ ?_; clear hK K)) | (refine tree_skip ⟨_, H, by repeat first | exact .here | apply Suf.there⟩ rfl rfl ?_; simp only [List.getElem_toArray, List.getElem_cons_succ, List.getElem_cons_zero, Act.put, List.setIfInBounds_toArray, List.set_cons_succ, List.set_cons_zero])) | (guard_target =~ wpTree _ _ _ (Tr.both _ _) _ _ _; refine tree_both ?_ ?_) | (guard_target =~ wpTree _ _ _ (Tr.e _ _) _ _ _; first | (refine tree_one rfl rfl (fun K hK => ?_); simp only [List.getElem_toArray, List.getElem_cons_succ, List.getElem_cons_zero]; first | ((first | fail); simp only [Act.put, List.setIfInBounds_toArray, List.set_cons_succ, List.set_cons_zero]) | go_big_op) | (refine tree_one_skip ⟨_, H, by repeat first | exact .here | apply Suf.there⟩ rfl rfl ?_; simp only [List.getElem_toArray, List.getElem_cons_succ, List.getElem_cons_zero, Act.put, List.setIfInBounds_toArray, List.set_cons_succ, List.set_cons_zero])) | (guard_target =~ wpTree _ _ _ Tr.nil _ _ _; refine tree_nil ?_)))
            go_roundg j
            case rel =>
              refine ⟨A5, Al, c5, b5, o5, cl, bl, ol, l5, ll, by omega, rfl, rfl, ?_, ?_, q5, p5, hl1, hl2, f5, fl, ?_⟩
              · rw [HDD.out, HH.out.1]; exact g5
              · rw [HDD.out, HH.out.2]; exact gl
              · exact (H.sub (.cons _ (.cons_cons _ (.cons _ (.cons_cons _ (.cons _ (.refl _))))))).swap
            case measure => omega
        · obtain rfl : gk = 0 := by omega
          have e1 : ((0 : Nat) : Int) - 1 = -1 := rfl
          rw [e1]
          rw [Nat.pow_zero, Nat.one_mul] at gq gl
          have hlq : lq.length ≤ a.length := gq.len_of (Nat.div_le_self _ _) (val_lt ga1)
          have hll' : ll.length ≤ a.length := gl.len_of (Nat.mod_le _ _) (val_lt ga1)
          have HT1 : ∀ (F : Nat → Prop) (w : World) (hF : ∀ k, F k → k < w.heap.size) (A : Option Addr) (ha : Sl F w A (dl lq)), Calls Try.prog 97 #[.agg #[.bool (!(s == t)), .slice A lq.length c]] w (RetN F w (x.tdiv y)) := by
            intro F w hF A ha
            have h := trim_any F w hF (!(s == t)) A c lq ha gq.1 (by omega) hc1 hc2
            have e := gq.2.2
            rw [Int.natAbs_natCast] at e
            rw [e, HZ1.out] at h
            exact h
          have HT2 : ∀ (F : Nat → Prop) (w : World) (hF : ∀ k, F k → k < w.heap.size) (A : Option Addr) (ha : Sl F w A (dl ll)), Calls Try.prog 97 #[.agg #[.bool s, .slice A ll.length cl]] w (RetN F w (x.tmod y)) := by
            intro F w hF A ha
            have h := trim_any F w hF s A cl ll ha gl.1 (by omega) hl1 hl2
            have e := gl.2.2
            rw [Int.natAbs_natCast] at e
            rw [e, HZ2.out] at h
            exact h
          go_wp2_with (first
            | (guard_target =~ Code.wp _ (Code.region 15 _ true) _ _ _; replace H := H.front6.front6; refine region_tree 15 2 (G := True) (.q 0 (.q 1 (.q 2 (.q 3 (.q 4 (.q 5 (.q 6 (.q 7 (.q 9 (.q 10 (.q 11 (.q 12 (.e 8 (.e 13 (.e 14 (.e 15 .nil)))))))))))))))) (by kernel_rfl) (by intro c a d v w h; cases d <;> exact h) (by kernel_rfl) H ⟨trivial⟩ (fun _ w3 H2 => ?_); (clear H; (try clear w2); revert w3; intro w2 H); simp only [List.drop_succ_cons, List.drop_zero])
            | (go_at_call 97; (with_reducible refine (HT1 (FW F _) _ (H.fw_lt rfl hF) _ (H.giveRd m3 fq)).mono ?_); rintro e w3 ⟨A6, c6, l6, rfl, hb, s6, g6, q6, p6⟩; replace H := H.ext hb; clear hb; obtain ⟨b6, o6, H4, f6⟩ := H.addSl s6; clear H s6; have H := H4; clear H4; dsimp only; (refine hK _ _ ⟨_, H, by repeat first | exact .here | apply Suf.there⟩ ?_; clear hK K; (try simp only [Act.put, List.setIfInBounds_toArray, List.set_cons_succ, List.set_cons_zero])))
            | (go_at_call 97; (with_reducible refine (HT2 (FW F _) _ (H.fw_lt rfl hF) _ (H.giveRd m5 fl)).mono ?_); rintro e w3 ⟨A7, c7, l7, rfl, hb, s7, g7, q7, p7⟩; replace H := H.ext hb; clear hb; obtain ⟨b7, o7, H4, f7⟩ := H.addSl s7; clear H s7; have H := H4; clear H4; dsimp only; (refine hK _ _ ⟨_, H, by repeat first | exact .here | apply Suf.there⟩ ?_; clear hK K; (try simp only [Act.put, List.setIfInBounds_toArray, List.set_cons_succ, List.set_cons_zero])))
            | (guard_target =~ wpTree _ _ _ _ _ _ _; first | (guard_target =~ wpTree _ _ _ (Tr.q _ _) _ _ _; first | (refine tree_quiet ⟨_, H, by repeat first | exact .here | apply Suf.there⟩ rfl rfl rfl (fun K hK => ?_); simp only [List.getElem_toArray, List.getElem_cons_succ, List.getElem_cons_zero]; first | (guard_target =~ Oper.quiet _ (Oper.mk _ (.load _ _) _ _ _ _) _ _ _; (refine q_loadC (v := ?_) (row := ?_) rfl rfl ?_ ?_ ?_ (hK _ ?_); rotate_left 2; (repeat first | exact .head _ | apply List.Mem.tail); (exact rfl); (focus (intro _; simp; done))); clear hK K; simp only [Act.put, List.setIfInBounds_toArray, List.set_cons_succ, List.set_cons_zero]) | (go_big_quiet_op; (try refine ⟨_, fun _ _ => rfl, ?_⟩); refine hK _ ?_; clear hK K)) | (refine tree_skip ⟨_, H, by repeat first | exact .here | apply Suf.there⟩ rfl rfl ?_; simp only [List.getElem_toArray, List.getElem_cons_succ, List.getElem_cons_zero, Act.put, List.setIfInBounds_toArray, List.set_cons_succ, List.set_cons_zero])) | (guard_target =~ wpTree _ _ _ (Tr.both _ _) _ _ _; refine tree_both ?_ ?_) | (guard_target =~ wpTree _ _ _ (Tr.e _ _) _ _ _; first | (refine tree_one rfl rfl (fun K hK => ?_); simp only [List.getElem_toArray, List.getElem_cons_succ, List.getElem_cons_zero]; first | ((guard_target =~ Oper.wp _ (Oper.mk _ (.store _ _ _) _ _ _ _) _ _ _ _; refine o_store (l' := ?_) (row := ?_) rfl rfl H rfl ?_ ?_ ?_ ?_ (fun w3 H2 => hK _ _ ⟨_, H2, ?_⟩ ?_); rotate_left 2; (first | exact r2 | exact r3); (focus (intro _; simp [Act.eval, Value.cells]; done)); (focus (simp [Act.eval, Value.cells]; done)); (exact rfl); (guard_target =~ Suf _ _; repeat first | exact .here | apply Suf.there); clear hK K; clear H; (try clear w2); revert w3; intro w2 H; simp [Act.eval, Value.cells, setL, List.getD] at H); simp only [Act.put, List.setIfInBounds_toArray, List.set_cons_succ, List.set_cons_zero]) | go_big_op) | (refine tree_one_skip ⟨_, H, by repeat first | exact .here | apply Suf.there⟩ rfl rfl ?_; simp only [List.getElem_toArray, List.getElem_cons_succ, List.getElem_cons_zero, Act.put, List.setIfInBounds_toArray, List.set_cons_succ, List.set_cons_zero])) | (guard_target =~ wpTree _ _ _ Tr.nil _ _ _; refine tree_nil ?_)))
          have r4 := H.loadVarN (P := Try.prog) (ty := 71) (b := d4) (by exact m3) (by simp) (by simp)
          have r5 := H.loadVarN (P := Try.prog) (ty := 71) (b := d5) (by exact m2) (by simp) (by simp)
          exact bodyPost_ret (v := .tuple #[.agg #[.bool (decide (x.tdiv y < 0)), .slice A6 l6.length c6], .agg #[.bool (decide (x.tmod y < 0)), .slice A7 l7.length c7]]) (by simp [results, Try.results69, asAddr, r4, r5]) rfl ⟨A6, c6, l6, A7, c7, l7, rfl, H.below, (H.giveRd m1 f6).fw, g6, q6, p6, (H.giveRd m0 f7).fw, g7, q7, p7⟩
end Go.Proofs.Ytmmieilogpmocaa

/-
  The walks of the document's layer 3: the greatest number that divides both.
-/
namespace Go.Proofs.Ytmmieilogpmocaa
set_option linter.unusedVariables false
set_option linter.unusedSimpArgs false
open Go.RowKit

def RetNn2 (F : Nat → Prop) (w : World) (m n : Nat) (e : Ending) (w' : World) : Prop :=
  ∃ A c l A' c' l', e = .returned (.tuple #[.agg #[.bool false, .slice A l.length c], .agg #[.bool false, .slice A' l'.length c']]) ∧ Below w.heap.size w w' ∧ Sl F w' A (dl l) ∧ CnI l (m : Int) ∧ l.length ≤ c ∧ c ≤ maxLen ∧
    Sl F w' A' (dl l') ∧ CnI l' (n : Int) ∧ l'.length ≤ c' ∧ c' ≤ maxLen
theorem divNn_any (F : Nat → Prop) (w : World) (hF : ∀ k, F k → k < w.heap.size) (A1 A2 : Option Addr) (c1 c2 : Nat) (a b : List Nat) (m n : Nat) (ga : CnI a (m : Int)) (gb : CnI b (n : Int)) (hn : 0 < n) (ha : Sl F w A1 (dl a)) (hb : Sl F w A2 (dl b)) (la : a.length ≤ 450) (lb : b.length ≤ 450) (ma : a.length ≤ c1) (mb : b.length ≤ c2) (ma2 : c1 ≤ maxLen) (mb2 : c2 ≤ maxLen) :
    Calls Try.prog 69 #[.agg #[.bool false, .slice A1 a.length c1], .agg #[.bool false, .slice A2 b.length c2]] w (RetNn2 F w (m / n) (m % n)) := by
  have h := refDiv_any F w hF A1 A2 c1 c2 a b m n ha hb ga gb la lb ma mb ma2 mb2 (by omega)
  rw [natneg, natneg] at h
  refine h.mono ?_
  rintro e w' ⟨A, c, l, A', c', l', he, hb, h1, h2, h3, h4, h5, h6, h7, h8⟩
  rw [Int.tdiv_eq_ediv_of_nonneg (by omega), ← Int.natCast_ediv] at he h2
  rw [Int.tmod_eq_emod_of_nonneg (by omega), ← Int.natCast_emod] at he h6
  rw [natneg, natneg] at he
  exact ⟨A, c, l, A', c', l', he, hb, h1, h2, h3, h4, h5, h6, h7, h8⟩
def RGcdRel (F : Nat → Prop) (w : World) (g d2 d3 d4 : Nat) (k : Nat) (wr : World) : Prop :=
  ∃ (p : Nat) (A A' : Option Addr) (c c' b o b' o' : Nat) (l l' : List Nat), CnI l (p : Int) ∧ CnI l' (k : Int) ∧ Nat.gcd p k = g ∧ l.length ≤ 450 ∧ l'.length ≤ 450 ∧ l.length ≤ c ∧ c ≤ maxLen ∧ l'.length ≤ c' ∧ c' ≤ maxLen ∧ (0 < (dl l).length → ¬ F b) ∧ (0 < (dl l').length → ¬ F b') ∧
    Own w.heap.size w wr [.rd A' b' o' (dl l'), .rd A b o (dl l), .cells d4 [.bool false, .slice none 0 0], .cells d3 [.bool false, .slice A' l'.length c'], .cells d2 [.bool false, .slice A l.length c]]
set_option maxRecDepth 100000 in
set_option maxHeartbeats 4000000 in
theorem refGcd_any (F : Nat → Prop) (w : World) (hF : ∀ k, F k → k < w.heap.size) (A1 A2 : Option Addr) (c1 c2 : Nat) (a b : List Nat) (x y : Int) (s t : Bool) (ha : Sl F w A1 (dl a)) (hb : Sl F w A2 (dl b)) (ga : CnI a x) (gb : CnI b y) (la : a.length ≤ 450) (lb : b.length ≤ 450)
    (ma : a.length ≤ c1) (mb : b.length ≤ c2) (ma2 : c1 ≤ maxLen) (mb2 : c2 ≤ maxLen) :
    Calls Try.prog 65 #[.agg #[.bool s, .slice A1 a.length c1], .agg #[.bool t, .slice A2 b.length c2]] w (RetNn F w (Nat.gcd x.natAbs y.natAbs)) := by
  obtain ⟨b2, o2, H2, f2⟩ := (Own.start w).addSl (hb.ro (by rfl))
  obtain ⟨b1, o1, H, f1⟩ := H2.addSl (ha.ro (by rfl))
  clear ha hb H2
  go_enter Try.func65, Try.ntmps65
  have tk0 : True := trivial
  have tk1 : True := trivial
  have tk2 : True := trivial
  go_wp2_with (guard_target =~ wpList _ _ _ (_ :: _) _ _; (first | (guard_target =~ wpList _ _ _ (Oper.mk _ (.store _ _ _) _ _ _ _ :: _) _ _; refine BigFrame.wpList_want rfl (fun K hK => ?_); refine o_store (l' := ?_) (row := ?_) rfl rfl H rfl ?_ ?_ ?_ ?_ (fun w3 H2 => hK _ _ ?_); rotate_left 2; (first | exact r1 | exact r2); (focus (intro _; simp [Act.eval, Value.cells]; done)); (focus (simp [Act.eval, Value.cells]; done)); (exact rfl); clear hK K; clear H; (try clear w2); revert w3; intro w2 H; simp [Act.eval, Value.cells, setL, List.getD] at H) | ((first | (guard_target =~ wpList _ _ _ (Oper.mk _ (.alloc _) _ _ _ _ :: _) _ _; refine BigFrame.wpList_want rfl (fun K hK => ?_); refine o_alloc (z := ?_) rfl ?_ H rfl (fun w3 b2 he H2 => hK _ _ ?_); rotate_left 1; (focus (intro _; simp; with_reducible exact rfl))) | (guard_target =~ wpList _ _ _ (Oper.mk _ (.box _ _) _ _ _ _ :: _) _ _; refine BigFrame.wpList_want rfl (fun K hK => ?_); refine o_box rfl H rfl (fun w3 b2 he H2 => hK _ _ ?_))); clear hK K he; clear H; (try clear w2); revert w3; intro w2 H; simp [Act.eval, Value.cells, setL, List.getD] at H; (first | (clear tk0; rename Nat => d2) | (clear tk1; rename Nat => d3) | (clear tk2; rename Nat => d4)))); simp only [Act.put, List.setIfInBounds_toArray, List.set_cons_succ, List.set_cons_zero])
  go_loopg [] y.natAbs (RGcdRel F w (Nat.gcd x.natAbs y.natAbs) d2 d3 d4)
  case atStart =>
    exact ⟨x.natAbs, A1, A2, c1, c2, b1, o1, b2, o2, a, b, ga.nat, gb.nat, rfl, la, lb, ma, ma2, mb, mb2, f1, f2, H.front3.front4⟩
  case round =>
    clear H
    obtain ⟨p, A, A', c, c', b, o, b', o', l, l', gl, gl', hg, ll, ll', h1, h2, h3, h4, fl, fl', H⟩ := hrel
    have HG := Lib.hid hg
    clear hg
    by_cases h0 : 0 < gk
    · have hl0 : 0 < l'.length := List.length_pos_iff.2 fun h => by have := gl'.nil_iff.1 h; omega
      have HD := fun (F : Nat → Prop) (w : World) hF A A' ha hb => divNn_any F w hF A A' c c' l l' p gk gl gl' h0 ha hb ll ll' h1 h3 h2 h4
      have tk0 : True := trivial
      have tk1 : True := trivial
      go_wp2_with (first
        | (go_at_call 69; (with_reducible refine (HD (FW F _) _ (H.fw_lt rfl hF) _ _ (H.giveRd m1 fl) (H.giveRd m0 fl')).mono ?_); rintro e w3 ⟨A5, c5, l5, A6, c6, l6, rfl, hb, s5, g5, q5, p5, s6, g6, q6, p6⟩; replace H := H.ext hb; clear hb; obtain ⟨b6, o6, H4, f6⟩ := H.addSl s6; clear H s6; have H := H4; clear H4; dsimp only)
        | (guard_target =~ wpList _ _ _ (_ :: _) _ _; (first | (guard_target =~ wpList _ _ _ (Oper.mk _ (.load _ _) _ _ _ _ :: _) _ _; refine BigFrame.wpList_want rfl (fun K hK => ?_); (first | (refine o_loadC (v := ?_) (row := ?_) rfl rfl H ?_ ?_ ?_ (hK _ _ ?_); rotate_left 2; (repeat first | exact .head _ | apply List.Mem.tail); (exact rfl); (focus (intro _; simp; done))) | (refine o_loadNC (row := ?_) rfl rfl H ?_ ?_ ?_ (hK _ _ ?_); rotate_left 1; (repeat first | exact .head _ | apply List.Mem.tail); (focus (intro _; simp; done)); (focus (intro _; simp; done)))); clear hK K) | (guard_target =~ wpList _ _ _ (Oper.mk _ (.store _ _ _) _ _ _ _ :: _) _ _; refine BigFrame.wpList_want rfl (fun K hK => ?_); refine o_store (l' := ?_) (row := ?_) rfl rfl H rfl ?_ ?_ ?_ ?_ (fun w3 H2 => hK _ _ ?_); rotate_left 2; (first | exact r0 | exact r1 | exact r6 | exact r7); (focus (intro _; simp [Act.eval, Value.cells]; done)); (focus (simp [Act.eval, Value.cells]; done)); (exact rfl); clear hK K; clear H; (try clear w2); revert w3; intro w2 H; simp [Act.eval, Value.cells, setL, List.getD] at H) | ((guard_target =~ wpList _ _ _ (Oper.mk _ (.alloc _) _ _ _ _ :: _) _ _; refine BigFrame.wpList_want rfl (fun K hK => ?_); refine o_alloc (z := ?_) rfl ?_ H rfl (fun w3 b2 he H2 => hK _ _ ?_); rotate_left 1; (focus (intro _; simp; with_reducible exact rfl))); clear hK K he; clear H; (try clear w2); revert w3; intro w2 H; simp [Act.eval, Value.cells, setL, List.getD] at H; (first | (clear tk0; rename Nat => d5) | (clear tk1; rename Nat => d6)))); simp only [Act.put, List.setIfInBounds_toArray, List.set_cons_succ, List.set_cons_zero]))
      go_roundg (p % gk)
      case rel =>
        have hlen : l6.length ≤ 450 := by
          have := g6.len_of (Nat.le_of_lt (Nat.mod_lt p h0)) (by have := gl'.lt; rwa [Int.natAbs_natCast] at this)
          omega
        refine ⟨gk, A', A6, c', c6, b', o', b6, o6, l', l6, gl', g6, ?_, ll', hlen, h3, h4, q6, p6, fl', f6, H.sub (.cons _ (.cons _ (.cons_cons _ (.cons_cons _ (.cons _ (.refl _))))))⟩
        rw [← HG.out, Nat.gcd_comm gk, ← Nat.gcd_rec, Nat.gcd_comm]
      case measure => exact Nat.mod_lt _ h0
    · obtain rfl : gk = 0 := by omega
      obtain rfl : l' = [] := gl'.nil_iff.2 rfl
      have hg : p = Nat.gcd x.natAbs y.natAbs := by rw [← HG.out, Nat.gcd_zero_right]
      have HG2 := Lib.hid hg
      clear hg HG
      go_wp2_with (guard_target =~ wpList _ _ _ (_ :: _) _ _; (first | (guard_target =~ wpList _ _ _ (Oper.mk _ (.load _ _) _ _ _ _ :: _) _ _; refine BigFrame.wpList_want rfl (fun K hK => ?_); (first | (refine o_loadC (v := ?_) (row := ?_) rfl rfl H ?_ ?_ ?_ (hK _ _ ?_); rotate_left 2; (repeat first | exact .head _ | apply List.Mem.tail); (exact rfl); (focus (intro _; simp; done))) | (refine o_loadNC (row := ?_) rfl rfl H ?_ ?_ ?_ (hK _ _ ?_); rotate_left 1; (repeat first | exact .head _ | apply List.Mem.tail); (focus (intro _; simp; done)); (focus (intro _; simp; done)))); clear hK K) | (guard_target =~ wpList _ _ _ (Oper.mk _ (.store _ _ _) _ _ _ _ :: _) _ _; refine BigFrame.wpList_want rfl (fun K hK => ?_); refine o_store (l' := ?_) (row := ?_) rfl rfl H rfl ?_ ?_ ?_ ?_ (fun w3 H2 => hK _ _ ?_); rotate_left 2; (exact r2); (focus (intro _; simp [Act.eval, Value.cells]; done)); (focus (simp [Act.eval, Value.cells]; done)); (exact rfl); clear hK K; clear H; (try clear w2); revert w3; intro w2 H; simp [Act.eval, Value.cells, setL, List.getD] at H)); simp only [Act.put, List.setIfInBounds_toArray, List.set_cons_succ, List.set_cons_zero])
      have hr := H.loadVarN (P := Try.prog) (ty := 71) m2 (by simp) (by simp)
      rw [← HG2.out]
      exact bodyPost_ret (v := .agg #[.bool false, .slice A l.length c]) (by simp [results, Try.results65, asAddr, hr]) rfl ⟨A, c, l, rfl, H.below, (H.giveRd m1 fl).fw, gl, h1, h2⟩
end Go.Proofs.Ytmmieilogpmocaa

/-
  The walks of the document's layer 3: a number's digits from its words.
-/
namespace Go.Proofs.Ytmmieilogpmocaa
set_option linter.unusedVariables false
set_option linter.unusedSimpArgs false
open Go.RowKit

/-- The four words of a number, as natural numbers. -/
theorem iV_wl (x : Int) (hx : R256 x) : ∃ ws : List Nat, ws.length = 4 ∧ WB ws ∧ iV x = .agg (wl ws).toArray ∧ decide (9223372036854775808 ≤ ws.getD 3 0) = decide (x < 0) ∧ (vB wB ws : Int) = if x < 0 then x + 115792089237316195423570985008687907853269984665640564039457584007913129639936 else x := by
  obtain ⟨a, b, c, d, ha, hb, hc, hd, hxx, eX⟩ := iV_words x hx
  have hn := sv_neg ha hb hc hd
  rw [hxx] at hn
  have q : ∀ z : Int, Wd z → ∃ n : Nat, z = (n : Int) ∧ n < wB := fun z hz => ⟨z.toNat, by unfold Wd at hz; omega, by unfold Wd at hz; unfold wB; omega⟩
  obtain ⟨a, rfl, qa⟩ := q a ha
  obtain ⟨b, rfl, qb⟩ := q b hb
  obtain ⟨c, rfl, qc⟩ := q c hc
  obtain ⟨d, rfl, qd⟩ := q d hd
  refine ⟨[a, b, c, d], rfl, by intro z hz; simp at hz; rcases hz with rfl | rfl | rfl | rfl <;> assumption, eX, ?_, ?_⟩
  · rw [← hn]; unfold ngB
    show decide (9223372036854775808 ≤ d) = _
    rw [decide_eq_decide]; omega
  · have hn' : (9223372036854775808 ≤ (d : Int)) ↔ x < 0 := by unfold ngB at hn; rwa [decide_eq_decide] at hn
    unfold sv at hxx
    simp only [vB, wB]
    by_cases h : x < 0
    · rw [if_pos h]; rw [if_pos (hn'.2 h)] at hxx; omega
    · rw [if_neg h]; rw [if_neg (fun h' => h (hn'.1 h'))] at hxx; omega
/-- The words, as they stand when i digits have been taken. -/
def stW (ws : List Nat) (i : Nat) : List Nat := (List.range 4).map fun q => ws.getD q 0 / 65536 ^ (min 4 (i - 4 * q))
theorem stW_length (ws : List Nat) (i : Nat) : (stW ws i).length = 4 := by simp [stW]
theorem stW_zero (ws : List Nat) (h : ws.length = 4) : stW ws 0 = ws := by
  match ws, h with
  | [a, b, c, d], _ => simp [stW, List.range_succ]
theorem stW_get (ws : List Nat) (q r : Nat) (hq : q < 4) (hr : r < 4) : (stW ws (4 * q + r)).getD q 0 = ws.getD q 0 / 65536 ^ r := by
  unfold stW
  rw [List.getD_eq_getElem?_getD]
  simp only [List.getElem?_map, List.getElem?_range hq, Option.map_some, Option.getD_some]
  congr 2; omega
theorem stW_set (ws : List Nat) (q r : Nat) (hq : q < 4) (hr : r < 4) : (stW ws (4 * q + r)).set q (ws.getD q 0 / 65536 ^ r / 65536) = stW ws (4 * q + r + 1) := by
  apply List.ext_getElem?
  intro j
  by_cases hj : j < 4
  · by_cases hjq : q = j
    · subst hjq
      rw [List.getElem?_set_self (by rw [stW_length]; exact hj)]
      unfold stW
      simp only [List.getElem?_map, List.getElem?_range hj, Option.map_some]
      rw [Nat.div_div_eq_div_mul, ← Nat.pow_succ]
      congr 3; omega
    · rw [List.getElem?_set_ne hjq]
      unfold stW
      simp only [List.getElem?_map, List.getElem?_range hj, Option.map_some]
      congr 3; omega
  · rw [List.getElem?_eq_none (by simp [stW]; omega), List.getElem?_eq_none (by simp [stW]; omega)]
theorem word_digit (ws : List Nat) (hw : WB ws) (q r : Nat) (hr : r < 4) : ws.getD q 0 / 65536 ^ r % 65536 = vB wB ws / 65536 ^ (4 * q + r) % 65536 := by
  rw [vB_digit wB (by unfold wB; omega) ws q hw]
  have e : wB = 65536 ^ 4 := by unfold wB; rfl
  rw [e, digit_in_word _ _ _ _ hr, ← Nat.pow_mul, Nat.div_div_eq_div_mul, ← Nat.pow_add]
/-- What has been reckoned when i digits have been taken. -/
def FromInv (s : Bool) (u i : Nat) (l : List Nat) (c : Nat) : Prop :=
  Dg l ∧ l.length = i ∧ c ≤ 1 ∧ if s = true then val l + 65536 ^ i * c + u % 65536 ^ i = 65536 ^ i else val l = u % 65536 ^ i
theorem FromInv.start (s : Bool) (u : Nat) : FromInv s u 0 [] 1 := ⟨Dg.nil, rfl, Nat.le_refl _, by cases s <;> simp [val, Nat.mod_one]⟩
theorem FromInv.pos {u i c d : Nat} {l : List Nat} (h : FromInv false u i l c) (hd : u / 65536 ^ i % 65536 = d) : FromInv false u (i + 1) (l ++ [d]) c := by
  obtain ⟨h1, h2, h3, h4⟩ := h
  simp only [Bool.false_eq_true, if_false] at h4
  have hb : d < 65536 := by omega
  refine ⟨h1.snoc hb, by simp [h2], h3, ?_⟩
  simp only [Bool.false_eq_true, if_false]
  rw [val_snoc, h2, h4, Nat.pow_succ, Nat.mod_mul, hd]
theorem FromInv.neg {u i c d e : Nat} {l : List Nat} (h : FromInv true u i l c) (hd : u / 65536 ^ i % 65536 = d) (he : e + d = 65535 + c) : FromInv true u (i + 1) (l ++ [e % 65536]) (e / 65536) := by
  obtain ⟨h1, h2, h3, h4⟩ := h
  simp only [if_true] at h4
  have hb : d < 65536 := by omega
  refine ⟨h1.snoc (by omega), by simp [h2], by omega, ?_⟩
  simp only [if_true]
  rw [val_snoc, h2, Nat.pow_succ, Nat.mod_mul, hd]
  have h5 : 65536 ^ i * (e % 65536) + 65536 ^ i * 65536 * (e / 65536) = 65536 ^ i * e := by
    rw [Nat.mul_assoc, ← Nat.mul_add]; congr 1; omega
  have h6 : 65536 ^ i * e + 65536 ^ i * d = 65536 ^ i * 65535 + 65536 ^ i * c := by rw [← Nat.mul_add, he, Nat.mul_add]
  have h7 : 65536 ^ i * 65536 = 65536 ^ i * 65535 + 65536 ^ i := by rw [← Nat.mul_succ]
  omega
theorem FromInv.done {x : Int} {u c : Nat} {l : List Nat} (hx : R256 x) (h : FromInv (decide (x < 0)) u 16 l c) (hu : (u : Int) = if x < 0 then x + 115792089237316195423570985008687907853269984665640564039457584007913129639936 else x) : sgn (decide (x < 0)) (val l) = x := by
  obtain ⟨h1, h2, h3, h4⟩ := h
  have e : (65536 : Nat) ^ 16 = 115792089237316195423570985008687907853269984665640564039457584007913129639936 := by decide
  have hl := val_lt h1
  rw [h2, e] at hl
  rw [e] at h4
  unfold R256 at hx
  by_cases hn : x < 0
  · simp only [hn, decide_true, if_true] at h4 hu
    unfold sgn
    simp only [hn, decide_true, if_true]
    rw [Nat.mod_eq_of_lt (by omega)] at h4
    have : c = 0 := by
      rcases Nat.lt_or_ge 0 c with h | h
      · have : c = 1 := by omega
        subst this; omega
      · omega
    subst this
    omega
  · simp only [hn, decide_false, Bool.false_eq_true, if_false] at h4 hu
    unfold sgn
    simp only [hn, decide_false, Bool.false_eq_true, if_false]
    rw [Nat.mod_eq_of_lt (by omega)] at h4
    omega
def FromRel (w : World) (d1 d2 d3 : Nat) (s : Bool) (ws : List Nat) (k : Nat) (cy i : Value) (wr : World) : Prop :=
  ∃ (j c : Nat) (l : List Nat) (A : Option Addr) (cp : Nat), j + k = 16 ∧ i = .int .i64 (j : Int) ∧ cy = .int .i64 (c : Int) ∧ FromInv s (vB wB ws) j l c ∧
    Own w.heap.size w wr [.grow 3 1 (.slice A j cp) j (dl l), .cells d3 [.bool s, .slice A j cp], .cells d2 [.bool false, .slice none 0 0], .cells d1 (wl (stW ws j))]
set_option maxRecDepth 100000 in
set_option maxHeartbeats 8000000 in
theorem refFrom_any (F : Nat → Prop) (w : World) (hF : ∀ k, F k → k < w.heap.size) (x : Int) (hx : R256 x) :
    Calls Try.prog 90 #[iV x] w (RetN F w x) := by
  obtain ⟨ws, h4, hw, eX, hneg, hu⟩ := iV_wl x hx
  have hdone := fun (c : Nat) (l : List Nat) (h : FromInv (decide (x < 0)) (vB wB ws) 16 l c) => h.done hx hu
  rw [eX]
  obtain ⟨s, hs⟩ : ∃ s, decide (x < 0) = s := ⟨_, rfl⟩
  rw [hs] at hneg hdone
  have H := Own.start w
  have H4 := Lib.hid h4
  have wlen : (wl ws).length = 4 := by rw [wl_length, h4]
  have b3 := hw.get 3
  obtain ⟨g3, hg3⟩ : ∃ g, ws.getD 3 0 = g := ⟨_, rfl⟩
  rw [hg3] at hneg b3
  have k3 : (wl ws)[3]? = some (.int .u64 (g3 : Int)) := by rw [wl_get (by rw [h4]; omega), hg3]
  have hneg2 : decide ((9223372036854775808 : Int) ≤ (g3 : Int)) = s := by rw [← hneg]; rw [decide_eq_decide]; omega
  clear h4 hneg hs hg3 eX
  have HU := Lib.hid hu
  clear hu
  go_enter Try.func90, Try.ntmps90
  have tk0 : True := trivial
  have tk1 : True := trivial
  have tk2 : True := trivial
  go_wp2_with (guard_target =~ wpList _ _ _ (_ :: _) _ _; (first | (guard_target =~ wpList _ _ _ (Oper.mk _ (.load _ _) _ _ _ _ :: _) _ _; refine BigFrame.wpList_want rfl (fun K hK => ?_); (refine o_loadC (v := ?_) (row := ?_) rfl rfl H ?_ ?_ ?_ (hK _ _ ?_); rotate_left 2; (repeat first | exact .head _ | apply List.Mem.tail); (with_reducible assumption); (focus (intro _; simp [wlen]; done))); clear hK K) | (guard_target =~ wpList _ _ _ (Oper.mk _ (.store _ _ _) _ _ _ _ :: _) _ _; refine BigFrame.wpList_want rfl (fun K hK => ?_); refine o_store (l' := ?_) (row := ?_) rfl rfl H rfl ?_ ?_ ?_ ?_ (fun w3 H2 => hK _ _ ?_); rotate_left 2; (exact r0); (focus (intro _; (simp [Act.eval, Value.cells, List.getD, wlen]; done))); (focus (simp [Act.eval, Value.cells, List.getD, wlen]; done)); (exact rfl); clear hK K; clear H; (try clear w2); revert w3; intro w2 H; (try simp [Act.eval, List.getD, wlen] at H); (try simp [Value.cells, setL, wlen] at H)) | ((first | (guard_target =~ wpList _ _ _ (Oper.mk _ (.alloc _) _ _ _ _ :: _) _ _; refine BigFrame.wpList_want rfl (fun K hK => ?_); refine o_alloc (z := ?_) rfl ?_ H rfl (fun w3 b2 he H2 => hK _ _ ?_); rotate_left 1; (focus (intro _; simp; with_reducible exact rfl))) | (guard_target =~ wpList _ _ _ (Oper.mk _ (.box _ _) _ _ _ _ :: _) _ _; refine BigFrame.wpList_want rfl (fun K hK => ?_); refine o_box rfl H rfl (fun w3 b2 he H2 => hK _ _ ?_))); clear hK K he; clear H; (try clear w2); revert w3; intro w2 H; (try simp [Act.eval, List.getD, wlen] at H); (try simp [Value.cells, setL, wlen] at H); (first | (clear tk0; rename Nat => d1) | (clear tk1; rename Nat => d2) | (clear tk2; rename Nat => d3)))); simp only [Act.put, List.setIfInBounds_toArray, List.set_cons_succ, List.set_cons_zero, wlen])
  go_loopg [4, 5] 16 (FromRel w d1 d2 d3 s ws)
  case atStart =>
    refine ⟨0, 1, [], none, 0, Nat.zero_add _, rfl, rfl, FromInv.start _ _, ?_⟩
    rw [stW_zero ws H4.out]
    exact H.grow_nil 3 1
  case round =>
    clear H
    obtain ⟨j, c, l, A, cp, hk, rfl, rfl, hinv, H⟩ := hrel
    by_cases h0 : j < 16
    · have hq : j / 4 < 4 := by omega
      have hr : j % 4 < 4 := by omega
      have hj : 4 * (j / 4) + j % 4 = j := by omega
      obtain ⟨g, hg⟩ : ∃ g, ws.getD (j / 4) 0 / 65536 ^ (j % 4) = g := ⟨_, rfl⟩
      obtain ⟨d, hd0⟩ : ∃ d, g % 65536 = d := ⟨_, rfl⟩
      have hd := word_digit ws hw (j / 4) (j % 4) hr
      rw [hg, hd0, hj] at hd
      have bg : g < 18446744073709551616 := by rw [← hg]; exact Nat.lt_of_le_of_lt (Nat.div_le_self _ _) (hw.get _)
      have bd : d < 65536 := by omega
      have hset := stW_set ws (j / 4) (j % 4) hq hr
      rw [hg, hj] at hset
      have HINV := Lib.hid hinv
      have hc := hinv.2.2.1
      have HDG := Lib.hid hd.symm
      have HSET := Lib.hid hset
      have ed : (g : Int) % 65536 = (d : Int) := by omega
      have slen : (wl (stW ws j)).length = 4 := by rw [wl_length, stW_length]
      have ld : (Res.cells d1 (wl (stW ws j))).at d1 (j / 4) [.int .u64 (g : Int)] := at_cells (by
        have h := stW_get ws (j / 4) (j % 4) hq hr
        rw [hj, hg] at h
        rw [wl_get (by rw [stW_length]; omega), h])
      have hjl := Lib.hid hj
      clear hj hr
      clear hg hd0 hd hset hinv
      cases s with
      | true =>
        have tk0 : True := trivial
        go_wp2_with (guard_target =~ wpList _ _ _ (_ :: _) _ _; (first | (guard_target =~ wpList _ _ _ (Oper.mk _ (.call { callee := .builtin .append, args := _, argTypes := _ }) _ _ _ _ :: _) _ _; refine BigFrame.wpList_want rfl (fun K hK => ?_); refine o_append (row := ?_) (n := ?_) (xs := ?_) (l' := ?_) Try.infoInt rfl rfl rfl H ?_ rfl ?_ ?_ (by kernel_rfl) rfl (by decide) ?_ ?_ ?_ (fun v2 w3 H2 hn => hK _ _ ?_); rotate_left 4; (repeat first | exact .head _ | apply List.Mem.tail); (focus (simp; done)); (focus (intro _; (exact r1))); exact rfl; exact (by unfold maxLen; omega); exact (by omega); clear hK K hn; clear H; (try clear w2); revert w3; intro w2 H; simp only [List.take_succ_cons, List.take_zero, Nat.one_mul] at H; (obtain ⟨Ag, cg, rfl⟩ := H.growForm (v := v2) (by repeat first | exact .head _ | apply List.Mem.tail))) | (guard_target =~ wpList _ _ _ (Oper.mk _ (.load _ _) _ _ _ _ :: _) _ _; refine BigFrame.wpList_want rfl (fun K hK => ?_); (first | (refine o_load (v := ?_) (r := ?_) rfl rfl H ?_ ?_ ?_ (hK _ _ ?_); rotate_left 2; (with_reducible assumption); (repeat first | exact .head _ | apply List.Mem.tail); (focus (intro _; simp [slen, ed]; done))) | (refine o_loadC (v := ?_) (row := ?_) rfl rfl H ?_ ?_ ?_ (hK _ _ ?_); rotate_left 2; (repeat first | exact .head _ | apply List.Mem.tail); (exact rfl); (focus (intro _; simp [slen, ed]; done)))); clear hK K) | (guard_target =~ wpList _ _ _ (Oper.mk _ (.store _ _ _) _ _ _ _ :: _) _ _; refine BigFrame.wpList_want rfl (fun K hK => ?_); refine o_store (l' := ?_) (row := ?_) rfl rfl H rfl ?_ ?_ ?_ ?_ (fun w3 H2 => hK _ _ ?_); rotate_left 2; (first | exact r2 | exact r3); (focus (intro _; (simp [Act.eval, Value.cells, List.getD, slen, ed]; done))); (focus (first | (simp [Act.eval, Value.cells, List.getD, slen, ed]; done) | ((try simp [Act.eval, Value.cells, List.getD, slen, ed]); omega))); (exact rfl); clear hK K; clear H; (try clear w2); revert w3; intro w2 H; (try simp [Act.eval, List.getD, slen, ed] at H); (try simp [Value.cells, setL, slen, ed] at H)) | ((guard_target =~ wpList _ _ _ (Oper.mk _ (.buildSlice _ _ _) _ _ _ _ :: _) _ _; refine BigFrame.wpList_want rfl (fun K hK => ?_); refine o_buildSlice (C := ?_) (E := ?_) rfl rfl H ?_ rfl (fun w3 b2 he H2 => hK _ _ ?_); rotate_left 2; (focus (intro _; simp [go_sem, Instr.buildSlice]; with_reducible exact rfl))); clear hK K he; clear H; (try clear w2); revert w3; intro w2 H; (try simp [Act.eval, List.getD, slen, ed] at H); (try simp [Value.cells, setL, slen, ed] at H); (clear tk0; rename Nat => b6))); simp only [Act.put, List.setIfInBounds_toArray, List.set_cons_succ, List.set_cons_zero, slen, ed])
        obtain ⟨e, he⟩ : ∃ e, e = 65535 - d + c := ⟨_, rfl⟩
        have e1 : (65535 - (d : Int) + (c : Int)) % 65536 = ((e % 65536 : Nat) : Int) := by omega
        have e2 : (g : Int) / 65536 = ((g / 65536 : Nat) : Int) := by omega
        rw [e1, e2, wl_set, HSET.out] at H
        go_roundg (16 - (j + 1))
        case rel =>
          refine ⟨j + 1, e / 65536, l ++ [e % 65536], Ag, cg, by omega, by congr 1, by congr 1; omega, HINV.out.neg HDG.out (by omega), ?_⟩
          rw [dl_append]
          exact H.tail
        case measure => omega
      | false =>
        have tk0 : True := trivial
        go_wp2_with (guard_target =~ wpList _ _ _ (_ :: _) _ _; (first | (guard_target =~ wpList _ _ _ (Oper.mk _ (.call { callee := .builtin .append, args := _, argTypes := _ }) _ _ _ _ :: _) _ _; refine BigFrame.wpList_want rfl (fun K hK => ?_); refine o_append (row := ?_) (n := ?_) (xs := ?_) (l' := ?_) Try.infoInt rfl rfl rfl H ?_ rfl ?_ ?_ (by kernel_rfl) rfl (by decide) ?_ ?_ ?_ (fun v2 w3 H2 hn => hK _ _ ?_); rotate_left 4; (repeat first | exact .head _ | apply List.Mem.tail); (focus (simp; done)); (focus (intro _; (exact r1))); exact rfl; exact (by unfold maxLen; omega); exact (by omega); clear hK K hn; clear H; (try clear w2); revert w3; intro w2 H; simp only [List.take_succ_cons, List.take_zero, Nat.one_mul] at H; (obtain ⟨Ag, cg, rfl⟩ := H.growForm (v := v2) (by repeat first | exact .head _ | apply List.Mem.tail))) | (guard_target =~ wpList _ _ _ (Oper.mk _ (.load _ _) _ _ _ _ :: _) _ _; refine BigFrame.wpList_want rfl (fun K hK => ?_); (first | (refine o_load (v := ?_) (r := ?_) rfl rfl H ?_ ?_ ?_ (hK _ _ ?_); rotate_left 2; (with_reducible assumption); (repeat first | exact .head _ | apply List.Mem.tail); (focus (intro _; simp [slen, ed]; done))) | (refine o_loadC (v := ?_) (row := ?_) rfl rfl H ?_ ?_ ?_ (hK _ _ ?_); rotate_left 2; (repeat first | exact .head _ | apply List.Mem.tail); (exact rfl); (focus (intro _; simp [slen, ed]; done)))); clear hK K) | (guard_target =~ wpList _ _ _ (Oper.mk _ (.store _ _ _) _ _ _ _ :: _) _ _; refine BigFrame.wpList_want rfl (fun K hK => ?_); refine o_store (l' := ?_) (row := ?_) rfl rfl H rfl ?_ ?_ ?_ ?_ (fun w3 H2 => hK _ _ ?_); rotate_left 2; (first | exact r2 | exact r3); (focus (intro _; (simp [Act.eval, Value.cells, List.getD, slen, ed]; done))); (focus (first | (simp [Act.eval, Value.cells, List.getD, slen, ed]; done) | ((try simp [Act.eval, Value.cells, List.getD, slen, ed]); omega))); (exact rfl); clear hK K; clear H; (try clear w2); revert w3; intro w2 H; (try simp [Act.eval, List.getD, slen, ed] at H); (try simp [Value.cells, setL, slen, ed] at H)) | ((guard_target =~ wpList _ _ _ (Oper.mk _ (.buildSlice _ _ _) _ _ _ _ :: _) _ _; refine BigFrame.wpList_want rfl (fun K hK => ?_); refine o_buildSlice (C := ?_) (E := ?_) rfl rfl H ?_ rfl (fun w3 b2 he H2 => hK _ _ ?_); rotate_left 2; (focus (intro _; simp [go_sem, Instr.buildSlice]; with_reducible exact rfl))); clear hK K he; clear H; (try clear w2); revert w3; intro w2 H; (try simp [Act.eval, List.getD, slen, ed] at H); (try simp [Value.cells, setL, slen, ed] at H); (clear tk0; rename Nat => b6))); simp only [Act.put, List.setIfInBounds_toArray, List.set_cons_succ, List.set_cons_zero, slen, ed])
        have e2 : (g : Int) / 65536 = ((g / 65536 : Nat) : Int) := by omega
        rw [e2, wl_set, HSET.out] at H
        go_roundg (16 - (j + 1))
        case rel =>
          refine ⟨j + 1, c, l ++ [d], Ag, cg, by omega, by congr 1, rfl, HINV.out.pos HDG.out, ?_⟩
          rw [dl_append]
          exact H.tail
        case measure => omega
    · obtain rfl : j = 16 := by omega
      have hz := hdone c l hinv
      obtain ⟨gl, hl, _, _⟩ := hinv
      obtain ⟨A', b', cp', hv, hc1, hc2, H, hB⟩ := H.growRd
      obtain ⟨rfl, rfl⟩ : A = A' ∧ cp = cp' := by injection hv with h1 h2 h3; exact ⟨h1, h3⟩
      have fb : 0 < (dl l).length → ¬ F b' := fun h hf => by have := hB h; have := hF _ hf; omega
      have HT : ∀ (F : Nat → Prop) (w : World) (hF : ∀ k, F k → k < w.heap.size) (A : Option Addr) (ha : Sl F w A (dl l)), Calls Try.prog 97 #[.agg #[.bool s, .slice A 16 cp]] w (RetN F w x) := by
        intro F w hF A ha
        have h := trim_any F w hF s A cp l ha gl (by omega) (by omega) hc2
        rw [hl, hz] at h
        exact h
      have e16 : ((16 : Nat) : Int) = 16 := rfl
      rw [e16]
      clear hz hl hv e16
      go_wp2_with (first
        | (go_at_call 97; (with_reducible refine (HT (FW F _) _ (H.fw_lt rfl hF) _ (H.giveRd m0 fb)).mono ?_); rintro e w3 ⟨A3, c3, l3, rfl, hb, s3, g4, q3, p3⟩; replace H := H.ext hb; clear hb; obtain ⟨b3, o3, H4, f3⟩ := H.addSl s3; clear H s3; have H := H4; clear H4; dsimp only)
        | (guard_target =~ wpList _ _ _ (_ :: _) _ _; (first | (guard_target =~ wpList _ _ _ (Oper.mk _ (.load _ _) _ _ _ _ :: _) _ _; refine BigFrame.wpList_want rfl (fun K hK => ?_); (refine o_loadNC (row := ?_) rfl rfl H ?_ ?_ ?_ (hK _ _ ?_); rotate_left 1; (repeat first | exact .head _ | apply List.Mem.tail); (focus (intro _; simp; done)); (focus (intro _; simp; done))); clear hK K) | (guard_target =~ wpList _ _ _ (Oper.mk _ (.store _ _ _) _ _ _ _ :: _) _ _; refine BigFrame.wpList_want rfl (fun K hK => ?_); refine o_store (l' := ?_) (row := ?_) rfl rfl H rfl ?_ ?_ ?_ ?_ (fun w3 H2 => hK _ _ ?_); rotate_left 2; (exact r3); (focus (intro _; simp [Act.eval, Value.cells]; done)); (focus (simp [Act.eval, Value.cells]; done)); (exact rfl); clear hK K; clear H; (try clear w2); revert w3; intro w2 H; simp [Act.eval, Value.cells, setL, List.getD] at H)); simp only [Act.put, List.setIfInBounds_toArray, List.set_cons_succ, List.set_cons_zero]))
      have hr := H.loadVarN (P := Try.prog) (ty := 71) (b := d2) (by exact m3) (by simp) (by simp)
      exact bodyPost_ret (v := .agg #[.bool (decide (x < 0)), .slice A3 l3.length c3]) (by simp [results, Try.results90, asAddr, hr]) rfl ⟨A3, c3, l3, rfl, H.below, (H.giveRd m0 f3).fw, g4, q3, p3⟩
end Go.Proofs.Ytmmieilogpmocaa

/-
  The walks of the document's layer 4: a number of words, is it 1, is a fraction right.
-/
namespace Go.Proofs.Ytmmieilogpmocaa
set_option linter.unusedVariables false
set_option linter.unusedSimpArgs false
open Go.RowKit

set_option maxRecDepth 100000 in
set_option maxHeartbeats 4000000 in
theorem refOf_any (F : Nat → Prop) (w : World) (hF : ∀ k, F k → k < w.heap.size) (x : Int) (hx : R256 x) :
    Calls Try.prog 56 #[iV x] w (RetN F w x) := by
  have H := Own.start w
  have hf := fun F w hF => refFrom_any F w hF x hx
  go_enter Try.func56, Try.ntmps56
  have tk0 : True := trivial
  have tk1 : True := trivial
  go_wp2_with (first
    | (go_at_call 90; (with_reducible refine (hf (FW F _) _ (H.fw_lt rfl hF)).mono ?_); rintro e w3 ⟨A5, k5, l5, rfl, hb, s5, g5, q5, p5⟩; replace H := H.ext hb; clear hb; obtain ⟨b5, o5, H4, f5⟩ := H.addSl s5; clear H s5; have H := H4; clear H4; dsimp only)
    | (guard_target =~ wpList _ _ _ (_ :: _) _ _; (first | (guard_target =~ wpList _ _ _ (Oper.mk _ (.load _ _) _ _ _ _ :: _) _ _; refine BigFrame.wpList_want rfl (fun K hK => ?_); (refine o_loadNC (row := ?_) rfl rfl H ?_ ?_ ?_ (hK _ _ ?_); rotate_left 1; (repeat first | exact .head _ | apply List.Mem.tail); (focus (intro _; simp [cells_iV, iL_length, setL_i, setL_ii, agg_iL]; done)); (focus (intro _; simp [cells_iV, iL_length, setL_i, setL_ii, agg_iL]; done))); clear hK K) | (guard_target =~ wpList _ _ _ (Oper.mk _ (.store _ _ _) _ _ _ _ :: _) _ _; refine BigFrame.wpList_want rfl (fun K hK => ?_); refine o_store (l' := ?_) (row := ?_) rfl rfl H rfl ?_ ?_ ?_ ?_ (fun w3 H2 => hK _ _ ?_); rotate_left 2; (exact r1); (focus (intro _; (simp [Act.eval, Value.cells, List.getD, cells_iV, iL_length, setL_i, setL_ii, agg_iL]; done))); (focus (simp [Act.eval, Value.cells, List.getD, cells_iV, iL_length, setL_i, setL_ii, agg_iL]; done)); (exact rfl); clear hK K; clear H; (try clear w2); revert w3; intro w2 H; (try simp [Act.eval, List.getD, cells_iV, iL_length, setL_i, setL_ii, agg_iL] at H); (try simp [Value.cells, setL, cells_iV, iL_length, setL_i, setL_ii, agg_iL] at H)) | ((first | (guard_target =~ wpList _ _ _ (Oper.mk _ (.alloc _) _ _ _ _ :: _) _ _; refine BigFrame.wpList_want rfl (fun K hK => ?_); refine o_alloc (z := ?_) rfl ?_ H rfl (fun w3 b2 he H2 => hK _ _ ?_); rotate_left 1; (focus (intro _; simp; with_reducible exact rfl))) | (guard_target =~ wpList _ _ _ (Oper.mk _ (.box _ _) _ _ _ _ :: _) _ _; refine BigFrame.wpList_want rfl (fun K hK => ?_); refine o_box rfl H rfl (fun w3 b2 he H2 => hK _ _ ?_))); clear hK K he; clear H; (try clear w2); revert w3; intro w2 H; (try simp [Act.eval, List.getD, cells_iV, iL_length, setL_i, setL_ii, agg_iL] at H); (try simp [Value.cells, setL, cells_iV, iL_length, setL_i, setL_ii, agg_iL] at H); (first | (clear tk0; rename Nat => c1) | (clear tk1; rename Nat => c2)))); simp only [Act.put, List.setIfInBounds_toArray, List.set_cons_succ, List.set_cons_zero, cells_iV, iL_length, setL_i, setL_ii, agg_iL]))
  have hr := H.loadVarN (P := Try.prog) (ty := 71) m1 (by simp) (by simp)
  exact bodyPost_ret (v := .agg #[.bool (decide (x < 0)), .slice A5 l5.length k5]) (by simp [results, Try.results56, asAddr, hr]) rfl ⟨A5, k5, l5, rfl, H.below, (H.giveRd m0 f5).fw, g5, q5, p5⟩
theorem one_cases {l : List Nat} {z : Int} (g : CnI l z) : (decide (z < 0) = true ∧ decide (z = 1) = false) ∨ (decide (z < 0) = false ∧ ((l.length : Int) == 1) = false ∧ decide (z = 1) = false) ∨ (∃ d : Nat, l = [d] ∧ decide (z < 0) = false ∧ ((d : Int) == 1) = decide (z = 1)) := by
  by_cases h : z < 0
  · exact .inl ⟨by simpa using h, by simp; omega⟩
  · have hn : decide (z < 0) = false := by simpa using h
    have hv := g.2.2
    match l, g, hv with
    | [], g, hv =>
      simp [val] at hv
      exact .inr (.inl ⟨hn, by simp, by simp; omega⟩)
    | [d], g, hv =>
      simp [val] at hv
      refine .inr (.inr ⟨d, rfl, hn, ?_⟩)
      rw [Bool.eq_iff_iff]
      simp
      omega
    | d :: e :: m, g, hv =>
      refine .inr (.inl ⟨hn, ?_, ?_⟩)
      · simp; omega
      · simp
        intro hz
        subst hz
        have h1 := g.len_le (K := 1) (by decide)
        simp at h1
set_option maxRecDepth 100000 in
set_option maxHeartbeats 4000000 in
theorem refOne_any (F : Nat → Prop) (w : World) (hF : ∀ k, F k → k < w.heap.size) (A : Option Addr) (c : Nat) (l : List Nat) (z : Int) (ha : Sl F w A (dl l)) (g : CnI l z) :
    Calls Try.prog 64 #[.agg #[.bool (decide (z < 0)), .slice A l.length c]] w fun e w' => e = .returned (.bool (decide (z = 1))) ∧ Below w.heap.size w w' := by
  obtain ⟨b1, o1, H, f1⟩ := (Own.start w).addSl (ha.ro (by rfl))
  clear ha
  rcases one_cases g with ⟨h1, h2⟩ | ⟨h1, h3, h2⟩ | ⟨d, rfl, h1, h2⟩
  · rw [h1, h2]
    clear h1 h2 g
    go_enter Try.func64, Try.ntmps64
    have tk0 : True := trivial
    go_wp2_with (first
      | go_big_skip
      | (guard_target =~ wpList _ _ _ (_ :: _) _ _; (first | (guard_target =~ wpList _ _ _ (Oper.mk _ (.load _ _) _ _ _ _ :: _) _ _; refine BigFrame.wpList_want rfl (fun K hK => ?_); (refine o_loadC (v := ?_) (row := ?_) rfl rfl H ?_ ?_ ?_ (hK _ _ ?_); rotate_left 2; (repeat first | exact .head _ | apply List.Mem.tail); (exact rfl); (focus (intro _; simp; done))); clear hK K) | ((guard_target =~ wpList _ _ _ (Oper.mk _ (.box _ _) _ _ _ _ :: _) _ _; refine BigFrame.wpList_want rfl (fun K hK => ?_); refine o_box rfl H rfl (fun w3 b2 he H2 => hK _ _ ?_)); clear hK K he; clear H; (try clear w2); revert w3; intro w2 H; simp [Act.eval, Value.cells, setL, List.getD] at H; (clear tk0; rename Nat => c1))); simp only [Act.put, List.setIfInBounds_toArray, List.set_cons_succ, List.set_cons_zero]))
    go_ret
    exact ⟨rfl, H.below⟩
  · rw [h1, h2]
    clear h1 h2 g
    go_enter Try.func64, Try.ntmps64
    have tk0 : True := trivial
    go_wp2_with (first
      | go_big_skip
      | (guard_target =~ wpList _ _ _ (_ :: _) _ _; (first | (guard_target =~ wpList _ _ _ (Oper.mk _ (.load _ _) _ _ _ _ :: _) _ _; refine BigFrame.wpList_want rfl (fun K hK => ?_); (refine o_loadC (v := ?_) (row := ?_) rfl rfl H ?_ ?_ ?_ (hK _ _ ?_); rotate_left 2; (repeat first | exact .head _ | apply List.Mem.tail); (exact rfl); (focus (intro _; simp; done))); clear hK K) | ((guard_target =~ wpList _ _ _ (Oper.mk _ (.box _ _) _ _ _ _ :: _) _ _; refine BigFrame.wpList_want rfl (fun K hK => ?_); refine o_box rfl H rfl (fun w3 b2 he H2 => hK _ _ ?_)); clear hK K he; clear H; (try clear w2); revert w3; intro w2 H; simp [Act.eval, Value.cells, setL, List.getD] at H; (clear tk0; rename Nat => c1))); simp only [Act.put, List.setIfInBounds_toArray, List.set_cons_succ, List.set_cons_zero]))
    go_ret
    exact ⟨rfl, H.below⟩
  · rw [h1, ← h2]
    have hA := H.rdAddr m0 (by simp [dl])
    subst hA
    have hd : ∀ A b off, (Res.rd A b off (dl [d])).at b off [.int .i64 (d : Int)] := fun A b off => at_rd (j := 0) rfl
    have hd1 := hd (some ⟨b1, o1, none⟩) b1 o1
    clear h1 h2 g hd
    go_enter Try.func64, Try.ntmps64
    have tk0 : True := trivial
    go_wp2_with (guard_target =~ wpList _ _ _ (_ :: _) _ _; (first | (guard_target =~ wpList _ _ _ (Oper.mk _ (.load _ _) _ _ _ _ :: _) _ _; refine BigFrame.wpList_want rfl (fun K hK => ?_); (first | (refine o_load (v := ?_) (r := ?_) rfl rfl H ?_ ?_ ?_ (hK _ _ ?_); rotate_left 2; (with_reducible assumption); (repeat first | exact .head _ | apply List.Mem.tail); (focus (intro _; simp; done))) | (refine o_loadC (v := ?_) (row := ?_) rfl rfl H ?_ ?_ ?_ (hK _ _ ?_); rotate_left 2; (repeat first | exact .head _ | apply List.Mem.tail); (exact rfl); (focus (intro _; simp; done)))); clear hK K) | ((guard_target =~ wpList _ _ _ (Oper.mk _ (.box _ _) _ _ _ _ :: _) _ _; refine BigFrame.wpList_want rfl (fun K hK => ?_); refine o_box rfl H rfl (fun w3 b2 he H2 => hK _ _ ?_)); clear hK K he; clear H; (try clear w2); revert w3; intro w2 H; simp [Act.eval, Value.cells, setL, List.getD] at H; (clear tk0; rename Nat => c1))); simp only [Act.put, List.setIfInBounds_toArray, List.set_cons_succ, List.set_cons_zero])
    go_ret
    exact ⟨by first | rfl | simp, H.below⟩
theorem len_cases {l : List Nat} {z : Int} (g : CnI l z) : (z = 0 ∧ decide (0 < l.length) = false ∧ decide (0 < (l.length : Int)) = false) ∨ (z ≠ 0 ∧ decide (0 < l.length) = true ∧ decide (0 < (l.length : Int)) = true) := by
  by_cases h : z = 0
  · have := g.nil_iff.2 h
    subst this
    exact .inl ⟨h, rfl, rfl⟩
  · have : 0 < l.length := List.length_pos_iff.2 fun hl => h (g.nil_iff.1 hl)
    exact .inr ⟨h, by simpa using this, by simp; omega⟩
set_option maxRecDepth 100000 in
set_option maxHeartbeats 4000000 in
theorem ref4Right_any (n d : Int) (hn : R256 n) (hd : R256 d) (w : World) :
    Calls Try.prog 32 #[rV n d] w fun e w' => e = .returned (.bool (decide (0 < d ∧ gcdZ n d = 1))) ∧ Below w.heap.size w w' := by
  have H := Own.start w
  have hF : ∀ k : Nat, (fun _ : Nat => False) k → k < w.heap.size := fun k h => h.elim
  have ofn := fun F w hF => refOf_any F w hF n hn
  have ofd := fun F w hF => refOf_any F w hF d hd
  have hG := fun F w hF A1 A2 k1 k2 a b ha hb ga gb => refGcd_any F w hF A1 A2 k1 k2 a b n d (decide (n < 0)) false ha hb ga gb (fit450 hn ga) (fit450 hd gb)
  have hO := fun F w hF A c l ha g => refOne_any F w hF A c l (gcdZ n d) ha g
  obtain ⟨z, hz⟩ : ∃ z : Nat, Nat.gcd n.natAbs d.natAbs = z := ⟨_, rfl⟩
  have ez : gcdZ n d = (z : Int) := congrArg _ hz
  rw [ez] at hO ⊢
  rw [hz] at hG
  rw [natneg] at hO
  clear hz ez
  unfold RetN at ofd
  rcases Int.lt_trichotomy d 0 with h | h | h
  · have h1 : decide (d < 0) = true := by simpa using h
    have h2 : decide (0 < d ∧ (z : Int) = 1) = false := by simp; omega
    have h0 : d ≠ 0 := by omega
    rw [h2]
    rw [h1] at ofd
    clear h h1 h2
    go_enter Try.func32, Try.ntmps32
    have tk0 : True := trivial
    have tk1 : True := trivial
    go_wp2_with (first
      | (guard_target =~ Code.wp _ (Code.region 2 _ true) _ _ _; refine region_tree0 2 (G := True) (.q 0 (.q 1 (.q 2 (.q 3 (.q 4 (.q 5 (.q 6 (.q 7 (.q 8 (.q 9 (.q 10 (.q 11 (.q 13 (.e 12 (.e 14 (.e 15 (.q 16 (.q 17 .nil)))))))))))))))))) (by kernel_rfl) (by intro c a d v w h; cases d <;> exact h) (by kernel_rfl) H ⟨trivial⟩ (fun _ w3 H2 => ?_); (clear H; (try clear w2); revert w3; intro w2 H))
      | (go_at_call 56; (with_reducible refine (ofd (FW (fun _ => False) _) _ (H.fw_lt rfl hF)).mono ?_); rintro e w3 ⟨A5, k5, l5, rfl, hb, s5, g5, q5, p5⟩; replace H := H.ext hb; clear hb; obtain ⟨b5, o5, H4, f5⟩ := H.addSl s5; clear H s5; have H := H4; clear H4; (obtain ⟨_, t1, t2⟩ := (len_cases g5).resolve_left (fun hh => h0 hh.1)); dsimp only; (skip))
      | (guard_target =~ wpList _ _ _ (_ :: _) _ _; (first | (guard_target =~ wpList _ _ _ (Oper.mk _ (.load _ _) _ _ _ _ :: _) _ _; refine BigFrame.wpList_want rfl (fun K hK => ?_); (refine o_loadDen (n := ?_) (d := ?_) rfl rfl H ?_ ?_ ?_ (hK _ _ ?_); rotate_left 2; (repeat first | exact .head _ | apply List.Mem.tail); (focus (intro _; simp [cells_iV, iL_length, setL_i, setL_ii, agg_iL, cells_rV, rL_length, setL_r, setL_rr, agg_rL]; done)); (focus (intro _; simp [cells_iV, iL_length, setL_i, setL_ii, agg_iL, cells_rV, rL_length, setL_r, setL_rr, agg_rL]; done))); clear hK K) | (guard_target =~ wpList _ _ _ (Oper.mk _ (.store _ _ _) _ _ _ _ :: _) _ _; refine BigFrame.wpList_want rfl (fun K hK => ?_); refine o_store (l' := ?_) (row := ?_) rfl rfl H rfl ?_ ?_ ?_ ?_ (fun w3 H2 => hK _ _ ?_); rotate_left 2; (exact r0); (focus (intro _; (simp [Act.eval, Value.cells, List.getD, cells_iV, iL_length, setL_i, setL_ii, agg_iL, cells_rV, rL_length, setL_r, setL_rr, agg_rL]; done))); (focus (simp [Act.eval, Value.cells, List.getD, cells_iV, iL_length, setL_i, setL_ii, agg_iL, cells_rV, rL_length, setL_r, setL_rr, agg_rL]; done)); (exact rfl); clear hK K; clear H; (try clear w2); revert w3; intro w2 H; (try simp [Act.eval, List.getD, cells_iV, iL_length, setL_i, setL_ii, agg_iL, cells_rV, rL_length, setL_r, setL_rr, agg_rL] at H); (try simp [Value.cells, setL, cells_iV, iL_length, setL_i, setL_ii, agg_iL, cells_rV, rL_length, setL_r, setL_rr, agg_rL] at H)) | ((first | (guard_target =~ wpList _ _ _ (Oper.mk _ (.alloc _) _ _ _ _ :: _) _ _; refine BigFrame.wpList_want rfl (fun K hK => ?_); refine o_alloc (z := ?_) rfl ?_ H rfl (fun w3 b2 he H2 => hK _ _ ?_); rotate_left 1; (focus (intro _; simp; with_reducible exact rfl))) | (guard_target =~ wpList _ _ _ (Oper.mk _ (.box _ _) _ _ _ _ :: _) _ _; refine BigFrame.wpList_want rfl (fun K hK => ?_); refine o_box rfl H rfl (fun w3 b2 he H2 => hK _ _ ?_))); clear hK K he; clear H; (try clear w2); revert w3; intro w2 H; (try simp [Act.eval, List.getD, cells_iV, iL_length, setL_i, setL_ii, agg_iL, cells_rV, rL_length, setL_r, setL_rr, agg_rL] at H); (try simp [Value.cells, setL, cells_iV, iL_length, setL_i, setL_ii, agg_iL, cells_rV, rL_length, setL_r, setL_rr, agg_rL] at H); (first | (clear tk0; rename Nat => c1) | (clear tk1; rename Nat => c2)))); simp only [Act.put, List.setIfInBounds_toArray, List.set_cons_succ, List.set_cons_zero, cells_iV, iL_length, setL_i, setL_ii, agg_iL, cells_rV, rL_length, setL_r, setL_rr, agg_rL])
      | (guard_target =~ wpTree _ _ _ _ _ _ _; first | (guard_target =~ wpTree _ _ _ (Tr.q _ _) _ _ _; first | (refine tree_quiet ⟨_, H, by repeat first | exact .here | apply Suf.there⟩ rfl rfl rfl (fun K hK => ?_); simp only [List.getElem_toArray, List.getElem_cons_succ, List.getElem_cons_zero]; first | (guard_target =~ Oper.quiet _ (Oper.mk _ (.load _ _) _ _ _ _) _ _ _; (refine q_loadC (v := ?_) (row := ?_) rfl rfl ?_ ?_ ?_ (hK _ ?_); rotate_left 2; (repeat first | exact .head _ | apply List.Mem.tail); (exact rfl); (focus (intro _; simp [cells_iV, iL_length, setL_i, setL_ii, agg_iL, cells_rV, rL_length, setL_r, setL_rr, agg_rL]; done))); clear hK K; simp only [Act.put, List.setIfInBounds_toArray, List.set_cons_succ, List.set_cons_zero, cells_iV, iL_length, setL_i, setL_ii, agg_iL, cells_rV, rL_length, setL_r, setL_rr, agg_rL]) | (go_big_quiet_op; (try refine ⟨_, fun _ _ => rfl, ?_⟩); refine hK _ ?_; clear hK K)) | (refine tree_skip ⟨_, H, by repeat first | exact .here | apply Suf.there⟩ rfl rfl ?_; simp only [List.getElem_toArray, List.getElem_cons_succ, List.getElem_cons_zero, Act.put, List.setIfInBounds_toArray, List.set_cons_succ, List.set_cons_zero])) | (guard_target =~ wpTree _ _ _ (Tr.both _ _) _ _ _; refine tree_both ?_ ?_) | (guard_target =~ wpTree _ _ _ (Tr.e _ _) _ _ _; first | (refine tree_one rfl rfl (fun K hK => ?_); simp only [List.getElem_toArray, List.getElem_cons_succ, List.getElem_cons_zero]; first | ((first | fail); simp only [Act.put, List.setIfInBounds_toArray, List.set_cons_succ, List.set_cons_zero, cells_iV, iL_length, setL_i, setL_ii, agg_iL, cells_rV, rL_length, setL_r, setL_rr, agg_rL]) | (go_big_op; (first | fail))) | (refine tree_one_skip ⟨_, H, by repeat first | exact .here | apply Suf.there⟩ rfl rfl ?_; simp only [List.getElem_toArray, List.getElem_cons_succ, List.getElem_cons_zero, Act.put, List.setIfInBounds_toArray, List.set_cons_succ, List.set_cons_zero])) | (guard_target =~ wpTree _ _ _ Tr.nil _ _ _; refine tree_nil ?_)))
    go_ret
    exact ⟨rfl, H.below⟩
  · subst h
    have h2 : decide ((0 : Int) < 0 ∧ (z : Int) = 1) = false := by simp
    rw [h2]
    clear h2
    go_enter Try.func32, Try.ntmps32
    have tk0 : True := trivial
    have tk1 : True := trivial
    go_wp2_with (first
      | (guard_target =~ Code.wp _ (Code.region 2 _ true) _ _ _; refine region_tree0 2 (G := True) (.q 0 (.q 1 (.q 2 (.q 3 (.q 4 (.q 5 (.q 6 (.q 7 (.q 8 (.q 9 (.q 10 (.q 11 (.q 13 (.e 12 (.e 14 (.e 15 (.q 16 (.q 17 .nil)))))))))))))))))) (by kernel_rfl) (by intro c a d v w h; cases d <;> exact h) (by kernel_rfl) H ⟨trivial⟩ (fun _ w3 H2 => ?_); (clear H; (try clear w2); revert w3; intro w2 H))
      | (go_at_call 56; (with_reducible refine (ofd (FW (fun _ => False) _) _ (H.fw_lt rfl hF)).mono ?_); rintro e w3 ⟨A5, k5, l5, rfl, hb, s5, g5, q5, p5⟩; replace H := H.ext hb; clear hb; obtain ⟨b5, o5, H4, f5⟩ := H.addSl s5; clear H s5; have H := H4; clear H4; (obtain ⟨_, t1, t2⟩ := (len_cases g5).resolve_right (fun hh => hh.1 rfl)); dsimp only; (skip))
      | (guard_target =~ wpList _ _ _ (_ :: _) _ _; (first | (guard_target =~ wpList _ _ _ (Oper.mk _ (.load _ _) _ _ _ _ :: _) _ _; refine BigFrame.wpList_want rfl (fun K hK => ?_); (refine o_loadDen (n := ?_) (d := ?_) rfl rfl H ?_ ?_ ?_ (hK _ _ ?_); rotate_left 2; (repeat first | exact .head _ | apply List.Mem.tail); (focus (intro _; simp [cells_iV, iL_length, setL_i, setL_ii, agg_iL, cells_rV, rL_length, setL_r, setL_rr, agg_rL]; done)); (focus (intro _; simp [cells_iV, iL_length, setL_i, setL_ii, agg_iL, cells_rV, rL_length, setL_r, setL_rr, agg_rL]; done))); clear hK K) | (guard_target =~ wpList _ _ _ (Oper.mk _ (.store _ _ _) _ _ _ _ :: _) _ _; refine BigFrame.wpList_want rfl (fun K hK => ?_); refine o_store (l' := ?_) (row := ?_) rfl rfl H rfl ?_ ?_ ?_ ?_ (fun w3 H2 => hK _ _ ?_); rotate_left 2; (exact r0); (focus (intro _; (simp [Act.eval, Value.cells, List.getD, cells_iV, iL_length, setL_i, setL_ii, agg_iL, cells_rV, rL_length, setL_r, setL_rr, agg_rL]; done))); (focus (simp [Act.eval, Value.cells, List.getD, cells_iV, iL_length, setL_i, setL_ii, agg_iL, cells_rV, rL_length, setL_r, setL_rr, agg_rL]; done)); (exact rfl); clear hK K; clear H; (try clear w2); revert w3; intro w2 H; (try simp [Act.eval, List.getD, cells_iV, iL_length, setL_i, setL_ii, agg_iL, cells_rV, rL_length, setL_r, setL_rr, agg_rL] at H); (try simp [Value.cells, setL, cells_iV, iL_length, setL_i, setL_ii, agg_iL, cells_rV, rL_length, setL_r, setL_rr, agg_rL] at H)) | ((first | (guard_target =~ wpList _ _ _ (Oper.mk _ (.alloc _) _ _ _ _ :: _) _ _; refine BigFrame.wpList_want rfl (fun K hK => ?_); refine o_alloc (z := ?_) rfl ?_ H rfl (fun w3 b2 he H2 => hK _ _ ?_); rotate_left 1; (focus (intro _; simp; with_reducible exact rfl))) | (guard_target =~ wpList _ _ _ (Oper.mk _ (.box _ _) _ _ _ _ :: _) _ _; refine BigFrame.wpList_want rfl (fun K hK => ?_); refine o_box rfl H rfl (fun w3 b2 he H2 => hK _ _ ?_))); clear hK K he; clear H; (try clear w2); revert w3; intro w2 H; (try simp [Act.eval, List.getD, cells_iV, iL_length, setL_i, setL_ii, agg_iL, cells_rV, rL_length, setL_r, setL_rr, agg_rL] at H); (try simp [Value.cells, setL, cells_iV, iL_length, setL_i, setL_ii, agg_iL, cells_rV, rL_length, setL_r, setL_rr, agg_rL] at H); (first | (clear tk0; rename Nat => c1) | (clear tk1; rename Nat => c2)))); simp only [Act.put, List.setIfInBounds_toArray, List.set_cons_succ, List.set_cons_zero, cells_iV, iL_length, setL_i, setL_ii, agg_iL, cells_rV, rL_length, setL_r, setL_rr, agg_rL])
      | (guard_target =~ wpTree _ _ _ _ _ _ _; first | (guard_target =~ wpTree _ _ _ (Tr.q _ _) _ _ _; first | (refine tree_quiet ⟨_, H, by repeat first | exact .here | apply Suf.there⟩ rfl rfl rfl (fun K hK => ?_); simp only [List.getElem_toArray, List.getElem_cons_succ, List.getElem_cons_zero]; first | (guard_target =~ Oper.quiet _ (Oper.mk _ (.load _ _) _ _ _ _) _ _ _; (refine q_loadC (v := ?_) (row := ?_) rfl rfl ?_ ?_ ?_ (hK _ ?_); rotate_left 2; (repeat first | exact .head _ | apply List.Mem.tail); (exact rfl); (focus (intro _; simp [cells_iV, iL_length, setL_i, setL_ii, agg_iL, cells_rV, rL_length, setL_r, setL_rr, agg_rL]; done))); clear hK K; simp only [Act.put, List.setIfInBounds_toArray, List.set_cons_succ, List.set_cons_zero, cells_iV, iL_length, setL_i, setL_ii, agg_iL, cells_rV, rL_length, setL_r, setL_rr, agg_rL]) | (go_big_quiet_op; (try refine ⟨_, fun _ _ => rfl, ?_⟩); refine hK _ ?_; clear hK K)) | (refine tree_skip ⟨_, H, by repeat first | exact .here | apply Suf.there⟩ rfl rfl ?_; simp only [List.getElem_toArray, List.getElem_cons_succ, List.getElem_cons_zero, Act.put, List.setIfInBounds_toArray, List.set_cons_succ, List.set_cons_zero])) | (guard_target =~ wpTree _ _ _ (Tr.both _ _) _ _ _; refine tree_both ?_ ?_) | (guard_target =~ wpTree _ _ _ (Tr.e _ _) _ _ _; first | (refine tree_one rfl rfl (fun K hK => ?_); simp only [List.getElem_toArray, List.getElem_cons_succ, List.getElem_cons_zero]; first | ((first | fail); simp only [Act.put, List.setIfInBounds_toArray, List.set_cons_succ, List.set_cons_zero, cells_iV, iL_length, setL_i, setL_ii, agg_iL, cells_rV, rL_length, setL_r, setL_rr, agg_rL]) | (go_big_op; (first | fail))) | (refine tree_one_skip ⟨_, H, by repeat first | exact .here | apply Suf.there⟩ rfl rfl ?_; simp only [List.getElem_toArray, List.getElem_cons_succ, List.getElem_cons_zero, Act.put, List.setIfInBounds_toArray, List.set_cons_succ, List.set_cons_zero])) | (guard_target =~ wpTree _ _ _ Tr.nil _ _ _; refine tree_nil ?_)))
    go_ret
    exact ⟨rfl, H.below⟩
  · have h1 : decide (d < 0) = false := by simp; omega
    have h2 : decide (0 < d ∧ (z : Int) = 1) = decide ((z : Int) = 1) := by simp [h]
    have h0 : d ≠ 0 := by omega
    rw [h2]
    rw [h1] at ofd
    clear h h1 h2
    generalize decide ((z : Int) = 1) = v at *
    go_enter Try.func32, Try.ntmps32
    have tk0 : True := trivial
    have tk1 : True := trivial
    go_wp2_with (first
      | (guard_target =~ Code.wp _ (Code.region 2 _ true) _ _ _; refine region_tree0 2 (G := True) (.q 0 (.q 1 (.q 2 (.q 3 (.q 4 (.q 5 (.q 6 (.q 7 (.q 8 (.q 9 (.q 10 (.q 11 (.q 13 (.e 12 (.e 14 (.e 15 (.q 16 (.q 17 .nil)))))))))))))))))) (by kernel_rfl) (by intro c a d v w h; cases d <;> exact h) (by kernel_rfl) H ⟨trivial⟩ (fun _ w3 H2 => ?_); (clear H; (try clear w2); revert w3; intro w2 H))
      | (go_at_call 56; (with_reducible refine (ofd (FW (fun _ => False) _) _ (H.fw_lt rfl hF)).mono ?_); rintro e w3 ⟨A5, k5, l5, rfl, hb, s5, g5, q5, p5⟩; replace H := H.ext hb; clear hb; obtain ⟨b5, o5, H4, f5⟩ := H.addSl s5; clear H s5; have H := H4; clear H4; (obtain ⟨_, t1, t2⟩ := (len_cases g5).resolve_left (fun hh => h0 hh.1)); dsimp only; (skip))
      | (go_at_call 56; (with_reducible refine (ofn (FW (fun _ => False) _) _ (H.fw_lt rfl hF)).mono ?_); rintro e w3 ⟨A6, k6, l6, rfl, hb, s6, g6, q6, p6⟩; replace H := H.ext hb; clear hb; obtain ⟨b6, o6, H4, f6⟩ := H.addSl s6; clear H s6; have H := H4; clear H4; dsimp only; (refine hK _ _ ⟨_, H, by repeat first | exact .here | apply Suf.there⟩ ?_; clear hK K; (try simp only [Act.put, List.setIfInBounds_toArray, List.set_cons_succ, List.set_cons_zero, cells_iV, iL_length, setL_i, setL_ii, agg_iL, cells_rV, rL_length, setL_r, setL_rr, agg_rL])))
      | (go_at_call 65; (with_reducible refine (hG (FW (fun _ => False) _) _ (H.fw_lt rfl hF) _ _ _ _ l6 l5 (by exact H.giveRd m0 f6) (by exact H.giveRd m2 f5) g6 g5 q6 q5 p6 p5).mono ?_); rintro e w3 ⟨A7, k7, l7, rfl, hb, s7, g7, q7, p7⟩; replace H := H.ext hb; clear hb; obtain ⟨b7, o7, H4, f7⟩ := H.addSl s7; clear H s7; have H := H4; clear H4; dsimp only; (refine hK _ _ ⟨_, H, by repeat first | exact .here | apply Suf.there⟩ ?_; clear hK K; (try simp only [Act.put, List.setIfInBounds_toArray, List.set_cons_succ, List.set_cons_zero, cells_iV, iL_length, setL_i, setL_ii, agg_iL, cells_rV, rL_length, setL_r, setL_rr, agg_rL])))
      | (go_at_call 64; (with_reducible refine (hO (FW (fun _ => False) _) _ (H.fw_lt rfl hF) _ _ l7 (by exact H.giveRd m0 f7) g7).mono ?_); rintro e w3 ⟨rfl, hb⟩; replace H := H.ext hb; clear hb; dsimp only; (refine hK _ _ ⟨_, H, by repeat first | exact .here | apply Suf.there⟩ ?_; clear hK K; (try simp only [Act.put, List.setIfInBounds_toArray, List.set_cons_succ, List.set_cons_zero, cells_iV, iL_length, setL_i, setL_ii, agg_iL, cells_rV, rL_length, setL_r, setL_rr, agg_rL])))
      | (guard_target =~ wpList _ _ _ (_ :: _) _ _; (first | (guard_target =~ wpList _ _ _ (Oper.mk _ (.load _ _) _ _ _ _ :: _) _ _; refine BigFrame.wpList_want rfl (fun K hK => ?_); (refine o_loadDen (n := ?_) (d := ?_) rfl rfl H ?_ ?_ ?_ (hK _ _ ?_); rotate_left 2; (repeat first | exact .head _ | apply List.Mem.tail); (focus (intro _; simp [cells_iV, iL_length, setL_i, setL_ii, agg_iL, cells_rV, rL_length, setL_r, setL_rr, agg_rL]; done)); (focus (intro _; simp [cells_iV, iL_length, setL_i, setL_ii, agg_iL, cells_rV, rL_length, setL_r, setL_rr, agg_rL]; done))); clear hK K) | (guard_target =~ wpList _ _ _ (Oper.mk _ (.store _ _ _) _ _ _ _ :: _) _ _; refine BigFrame.wpList_want rfl (fun K hK => ?_); refine o_store (l' := ?_) (row := ?_) rfl rfl H rfl ?_ ?_ ?_ ?_ (fun w3 H2 => hK _ _ ?_); rotate_left 2; (exact r0); (focus (intro _; (simp [Act.eval, Value.cells, List.getD, cells_iV, iL_length, setL_i, setL_ii, agg_iL, cells_rV, rL_length, setL_r, setL_rr, agg_rL]; done))); (focus (simp [Act.eval, Value.cells, List.getD, cells_iV, iL_length, setL_i, setL_ii, agg_iL, cells_rV, rL_length, setL_r, setL_rr, agg_rL]; done)); (exact rfl); clear hK K; clear H; (try clear w2); revert w3; intro w2 H; (try simp [Act.eval, List.getD, cells_iV, iL_length, setL_i, setL_ii, agg_iL, cells_rV, rL_length, setL_r, setL_rr, agg_rL] at H); (try simp [Value.cells, setL, cells_iV, iL_length, setL_i, setL_ii, agg_iL, cells_rV, rL_length, setL_r, setL_rr, agg_rL] at H)) | ((first | (guard_target =~ wpList _ _ _ (Oper.mk _ (.alloc _) _ _ _ _ :: _) _ _; refine BigFrame.wpList_want rfl (fun K hK => ?_); refine o_alloc (z := ?_) rfl ?_ H rfl (fun w3 b2 he H2 => hK _ _ ?_); rotate_left 1; (focus (intro _; simp; with_reducible exact rfl))) | (guard_target =~ wpList _ _ _ (Oper.mk _ (.box _ _) _ _ _ _ :: _) _ _; refine BigFrame.wpList_want rfl (fun K hK => ?_); refine o_box rfl H rfl (fun w3 b2 he H2 => hK _ _ ?_))); clear hK K he; clear H; (try clear w2); revert w3; intro w2 H; (try simp [Act.eval, List.getD, cells_iV, iL_length, setL_i, setL_ii, agg_iL, cells_rV, rL_length, setL_r, setL_rr, agg_rL] at H); (try simp [Value.cells, setL, cells_iV, iL_length, setL_i, setL_ii, agg_iL, cells_rV, rL_length, setL_r, setL_rr, agg_rL] at H); (first | (clear tk0; rename Nat => c1) | (clear tk1; rename Nat => c2)))); simp only [Act.put, List.setIfInBounds_toArray, List.set_cons_succ, List.set_cons_zero, cells_iV, iL_length, setL_i, setL_ii, agg_iL, cells_rV, rL_length, setL_r, setL_rr, agg_rL])
      | (guard_target =~ wpTree _ _ _ _ _ _ _; first | (guard_target =~ wpTree _ _ _ (Tr.q _ _) _ _ _; first | (refine tree_quiet ⟨_, H, by repeat first | exact .here | apply Suf.there⟩ rfl rfl rfl (fun K hK => ?_); simp only [List.getElem_toArray, List.getElem_cons_succ, List.getElem_cons_zero]; first | (guard_target =~ Oper.quiet _ (Oper.mk _ (.load _ _) _ _ _ _) _ _ _; (first | (refine q_loadNum (n := ?_) (d := ?_) rfl rfl ?_ ?_ ?_ (hK _ ?_); rotate_left 2; (repeat first | exact .head _ | apply List.Mem.tail); (focus (intro _; simp [cells_iV, iL_length, setL_i, setL_ii, agg_iL, cells_rV, rL_length, setL_r, setL_rr, agg_rL]; done)); (focus (intro _; simp [cells_iV, iL_length, setL_i, setL_ii, agg_iL, cells_rV, rL_length, setL_r, setL_rr, agg_rL]; done))) | (refine q_loadC (v := ?_) (row := ?_) rfl rfl ?_ ?_ ?_ (hK _ ?_); rotate_left 2; (repeat first | exact .head _ | apply List.Mem.tail); (exact rfl); (focus (intro _; simp [cells_iV, iL_length, setL_i, setL_ii, agg_iL, cells_rV, rL_length, setL_r, setL_rr, agg_rL]; done))) | (refine q_loadNC (row := ?_) rfl rfl ?_ ?_ ?_ (hK _ ?_); rotate_left 1; (repeat first | exact .head _ | apply List.Mem.tail); (focus (intro _; simp [cells_iV, iL_length, setL_i, setL_ii, agg_iL, cells_rV, rL_length, setL_r, setL_rr, agg_rL]; done)); (focus (intro _; simp [cells_iV, iL_length, setL_i, setL_ii, agg_iL, cells_rV, rL_length, setL_r, setL_rr, agg_rL]; done)))); clear hK K; simp only [Act.put, List.setIfInBounds_toArray, List.set_cons_succ, List.set_cons_zero, cells_iV, iL_length, setL_i, setL_ii, agg_iL, cells_rV, rL_length, setL_r, setL_rr, agg_rL]) | (go_big_quiet_op; (try refine ⟨_, fun _ _ => rfl, ?_⟩); refine hK _ ?_; clear hK K)) | (refine tree_skip ⟨_, H, by repeat first | exact .here | apply Suf.there⟩ rfl rfl ?_; simp only [List.getElem_toArray, List.getElem_cons_succ, List.getElem_cons_zero, Act.put, List.setIfInBounds_toArray, List.set_cons_succ, List.set_cons_zero])) | (guard_target =~ wpTree _ _ _ (Tr.both _ _) _ _ _; refine tree_both ?_ ?_) | (guard_target =~ wpTree _ _ _ (Tr.e _ _) _ _ _; first | (refine tree_one rfl rfl (fun K hK => ?_); simp only [List.getElem_toArray, List.getElem_cons_succ, List.getElem_cons_zero]; first | ((first | fail); simp only [Act.put, List.setIfInBounds_toArray, List.set_cons_succ, List.set_cons_zero, cells_iV, iL_length, setL_i, setL_ii, agg_iL, cells_rV, rL_length, setL_r, setL_rr, agg_rL]) | (go_big_op; (skip))) | (refine tree_one_skip ⟨_, H, by repeat first | exact .here | apply Suf.there⟩ rfl rfl ?_; simp only [List.getElem_toArray, List.getElem_cons_succ, List.getElem_cons_zero, Act.put, List.setIfInBounds_toArray, List.set_cons_succ, List.set_cons_zero])) | (guard_target =~ wpTree _ _ _ Tr.nil _ _ _; refine tree_nil ?_)))
    go_ret
    exact ⟨rfl, H.below⟩
end Go.Proofs.Ytmmieilogpmocaa

/-
  The walks of the document's layer 3: a number's words.
-/
namespace Go.Proofs.Ytmmieilogpmocaa
set_option linter.unusedVariables false
set_option linter.unusedSimpArgs false
open Go.RowKit

/-- Four words of a number. -/
def w4 (T : Nat) : List Nat := (List.range 4).map fun q => T / wB ^ q % wB
theorem w4_length (T : Nat) : (w4 T).length = 4 := by simp [w4]
theorem w4_zero : wl (w4 0) = [.int .u64 0, .int .u64 0, .int .u64 0, .int .u64 0] := by simp [w4, wl, List.range_succ]
theorem w4_get (T q : Nat) (hq : q < 4) : (w4 T).getD q 0 = T / wB ^ q % wB := by
  unfold w4
  rw [List.getD_eq_getElem?_getD]
  simp only [List.getElem?_map, List.getElem?_range hq, Option.map_some, Option.getD_some]
theorem pow_wB (q r : Nat) : 65536 ^ (4 * q + r) = wB ^ q * 65536 ^ r := by
  have e : wB = 65536 ^ 4 := by unfold wB; rfl
  rw [e, ← Nat.pow_mul, ← Nat.pow_add]
/-- A digit more: the word it stands in. -/
theorem w4_step (T e q r : Nat) (hq : q < 4) (hr : r < 4) (hT : T < 65536 ^ (4 * q + r)) (he : e < 65536) :
    (w4 T).getD q 0 + e * 65536 ^ r < 18446744073709551616 ∧ (w4 T).set q ((w4 T).getD q 0 + e * 65536 ^ r) = w4 (T + 65536 ^ (4 * q + r) * e) := by
  have hwp : 0 < wB ^ q := Nat.pow_pos (by unfold wB; omega)
  rw [pow_wB] at hT ⊢
  have h1 : T / wB ^ q < 65536 ^ r := by rw [Nat.div_lt_iff_lt_mul hwp, Nat.mul_comm]; exact hT
  have h2 : 65536 ^ r * 65536 ≤ wB := by
    have : 65536 ^ (r + 1) ≤ 65536 ^ 4 := Nat.pow_le_pow_right (by omega) (by omega)
    rw [Nat.pow_succ] at this
    have e : wB = 65536 ^ 4 := by unfold wB; rfl
    rw [e]; exact this
  have h3 : 65536 ^ r ≤ wB := Nat.le_trans (Nat.le_mul_of_pos_right _ (by omega)) h2
  have h4 : T / wB ^ q % wB = T / wB ^ q := Nat.mod_eq_of_lt (by omega)
  have h5 : T / wB ^ q + e * 65536 ^ r < wB := by
    have : (e + 1) * 65536 ^ r ≤ 65536 * 65536 ^ r := Nat.mul_le_mul_right _ (by omega)
    rw [Nat.add_mul, Nat.one_mul, Nat.mul_comm 65536] at this
    omega
  refine ⟨by rw [w4_get T q hq, h4]; exact h5, ?_⟩
  apply List.ext_getElem?
  intro j
  by_cases hj : j < 4
  · have e1 : T + wB ^ q * 65536 ^ r * e = T + wB ^ q * (e * 65536 ^ r) := by rw [Nat.mul_assoc, Nat.mul_comm (65536 ^ r) e]
    rw [e1]
    by_cases hjq : q = j
    · subst hjq
      rw [List.getElem?_set_self (by rw [w4_length]; exact hj), w4_get T q hq, h4]
      unfold w4
      simp only [List.getElem?_map, List.getElem?_range hj, Option.map_some]
      rw [Nat.add_mul_div_left _ _ hwp, Nat.mod_eq_of_lt h5]
    · rw [List.getElem?_set_ne hjq]
      unfold w4
      simp only [List.getElem?_map, List.getElem?_range hj, Option.map_some]
      congr 1
      rcases Nat.lt_or_ge j q with h | h
      · obtain ⟨k, rfl⟩ : ∃ k, q = j + (k + 1) := ⟨q - j - 1, by omega⟩
        have e2 : wB ^ (j + (k + 1)) * (e * 65536 ^ r) = wB ^ j * (wB * (wB ^ k * (e * 65536 ^ r))) := by rw [Nat.pow_add, Nat.pow_succ]; simp only [Nat.mul_assoc, Nat.mul_comm, Nat.mul_left_comm]
        rw [e2, Nat.add_mul_div_left _ _ (Nat.pow_pos (by unfold wB; omega)), Nat.add_mul_mod_self_left]
      · obtain ⟨k, rfl⟩ : ∃ k, j = q + (k + 1) := ⟨j - q - 1, by omega⟩
        have z : ∀ X, X / wB ^ q < wB → X / wB ^ (q + (k + 1)) = 0 := fun X hX => by
          rw [Nat.pow_add, ← Nat.div_div_eq_div_mul, Nat.pow_succ, Nat.mul_comm (wB ^ k), ← Nat.div_div_eq_div_mul, Nat.div_eq_of_lt hX, Nat.zero_div]
        rw [z T (by omega), z (T + wB ^ q * (e * 65536 ^ r)) (by rw [Nat.add_mul_div_left _ _ hwp]; exact h5)]
  · rw [List.getElem?_eq_none (by rw [List.length_set, w4_length]; omega), List.getElem?_eq_none (by rw [w4_length]; omega)]
theorem iV_w4 (z : Int) (T : Nat) (h : (T : Int) = z % 115792089237316195423570985008687907853269984665640564039457584007913129639936) : .agg (wl (w4 T)).toArray = iV z := by
  have e1 : wl (w4 T) = [.int .u64 ((T : Int) % 18446744073709551616), .int .u64 ((T : Int) / 18446744073709551616 % 18446744073709551616), .int .u64 ((T : Int) / 340282366920938463463374607431768211456 % 18446744073709551616), .int .u64 ((T : Int) / 6277101735386680763835789423207666416102355444464034512896 % 18446744073709551616)] := by
    unfold w4 wl wB
    simp [List.range_succ]
  rw [e1]
  unfold iV
  rw [h]
  have h0 : z % 115792089237316195423570985008687907853269984665640564039457584007913129639936 % 18446744073709551616 = z % 18446744073709551616 := by omega
  have h1 : z % 115792089237316195423570985008687907853269984665640564039457584007913129639936 / 18446744073709551616 % 18446744073709551616 = z / 18446744073709551616 % 18446744073709551616 := by omega
  have h2 : z % 115792089237316195423570985008687907853269984665640564039457584007913129639936 / 340282366920938463463374607431768211456 % 18446744073709551616 = z / 340282366920938463463374607431768211456 % 18446744073709551616 := by omega
  have h3 : z % 115792089237316195423570985008687907853269984665640564039457584007913129639936 / 6277101735386680763835789423207666416102355444464034512896 % 18446744073709551616 = z / 6277101735386680763835789423207666416102355444464034512896 % 18446744073709551616 := by omega
  rw [h0, h1, h2, h3]
/-- Does the number fit? By its digits. -/
theorem fits_short {l : List Nat} {z : Int} (g : CnI l z) (h : l.length < 16 ∨ (l.length = 16 ∧ l.getD 15 0 < 32768)) : R256 z := by
  have e16 : (65536 : Nat) ^ 15 * 32768 = 57896044618658097711785492504343953926634992332820282019728792003956564819968 := by decide
  have : val l < 65536 ^ 15 * 32768 := by
    rcases h with h | ⟨h1, h2⟩
    · have h1 := val_lt g.1
      have h2 : 65536 ^ l.length ≤ 65536 ^ 15 := Nat.pow_le_pow_right (by omega) (by omega)
      have h3 : 65536 ^ 15 ≤ 65536 ^ 15 * 32768 := Nat.le_mul_of_pos_right _ (by omega)
      omega
    · have h3 := val_split l 15
      rw [List.drop_of_length_le (by omega)] at h3
      have h4 : val (l.take 15) < 65536 ^ 15 := by
        have := val_lt (g.1.take 15)
        rwa [List.length_take, Nat.min_eq_left (by omega)] at this
      have h5 : 65536 ^ 15 * (l.getD 15 0 + 65536 * val []) ≤ 65536 ^ 15 * 32767 := Nat.mul_le_mul_left _ (by simp only [val]; omega)
      have h6 : (65536 : Nat) ^ 15 * 32768 = 65536 ^ 15 * 32767 + 65536 ^ 15 := by rw [← Nat.mul_succ]
      omega
  rw [e16, g.2.2] at this
  unfold R256
  omega
theorem fits_long {l : List Nat} {z : Int} (g : CnI l z) (h : 16 < l.length) : ¬ R256 z := by
  have h1 := val_pos (l := l) (by intro h0; subst h0; simp at h) (g.2.1 _)
  have h2 : (65536 : Nat) ^ 16 ≤ 65536 ^ (l.length - 1) := Nat.pow_le_pow_right (by omega) (by omega)
  have e16 : (65536 : Nat) ^ 16 = 115792089237316195423570985008687907853269984665640564039457584007913129639936 := by decide
  rw [e16] at h2
  rw [g.2.2] at h1
  unfold R256
  omega
theorem fits_top {l : List Nat} {z : Int} (g : CnI l z) (h : l.length = 16) (ht : 32768 ≤ l.getD 15 0) : decide (R256 z) = (decide (z < 0) && decide (l.getD 15 0 = 32768) && decide (val (l.take 15) = 0)) := by
  have e16 : (65536 : Nat) ^ 15 = 1766847064778384329583297500742918515827483896875618958121606201292619776 := by decide
  have h3 := val_split l 15
  rw [List.drop_of_length_le (by omega), g.2.2, e16] at h3
  simp only [val, Nat.mul_zero, Nat.add_zero] at h3
  have h4 : val (l.take 15) < 65536 ^ 15 := by
    have := val_lt (g.1.take 15)
    rwa [List.length_take, Nat.min_eq_left (by omega)] at this
  rw [e16] at h4
  rw [Bool.eq_iff_iff]
  simp only [Bool.and_eq_true, decide_eq_true_eq]
  unfold R256
  generalize l.getD 15 0 = t at *
  generalize val (l.take 15) = v at *
  constructor
  · intro hz; omega
  · intro hz; omega
def LeastRel (w : World) (A : Option Addr) (b1 o1 c1 d1 d2 d4 : Nat) (s t : Bool) (l : List Nat) (k : Nat) (i lst : Value) (wr : World) : Prop :=
  ∃ j : Nat, j + k = 15 ∧ i = .int .i64 (j : Int) ∧ lst = .bool (t && decide (val (l.take j) = 0)) ∧
    Own w.heap.size w wr [.cells d4 [.int .u64 0, .int .u64 0, .int .u64 0, .int .u64 0], .cells d2 [.int .u64 0, .int .u64 0, .int .u64 0, .int .u64 0], .cells d1 [.bool s, .slice A l.length c1], .rd A b1 o1 (dl l)]
def WordsRel (w : World) (A : Option Addr) (b1 o1 c1 d1 d2 d4 : Nat) (s : Bool) (l : List Nat) (u : Nat) (k : Nat) (cy i : Value) (wr : World) : Prop :=
  ∃ (j c : Nat) (m : List Nat), j + k = 16 ∧ i = .int .i64 (j : Int) ∧ cy = .int .i64 (c : Int) ∧ FromInv s u j m c ∧
    Own w.heap.size w wr [.cells d4 (wl (w4 (val m))), .cells d2 [.int .u64 0, .int .u64 0, .int .u64 0, .int .u64 0], .cells d1 [.bool s, .slice A l.length c1], .rd A b1 o1 (dl l)]
def PowerRel (w : World) (A : Option Addr) (b1 o1 c1 d1 d2 d4 : Nat) (s : Bool) (l m : List Nat) (r : Nat) (k : Nat) (p i : Value) (wr : World) : Prop :=
  ∃ j : Nat, j + k = r ∧ i = .int .i64 (j : Int) ∧ p = .int .u64 ((65536 ^ j : Nat) : Int) ∧
    Own w.heap.size w wr [.cells d4 (wl (w4 (val m))), .cells d2 [.int .u64 0, .int .u64 0, .int .u64 0, .int .u64 0], .cells d1 [.bool s, .slice A l.length c1], .rd A b1 o1 (dl l)]
theorem dec_pow (j y : Nat) : decide (0 + 65536 ^ j * y = 0) = ((y : Int) == 0) := by
  have hp : 65536 ^ j ≠ 0 := Nat.pos_iff_ne_zero.1 (Nat.pow_pos (by omega))
  rw [Bool.eq_iff_iff, decide_eq_true_eq, beq_iff_eq, Nat.zero_add, Nat.mul_eq_zero]
  omega
theorem digit_val (l : List Nat) (g : Dg l) (i : Nat) : l.getD i 0 = val l / 65536 ^ i % 65536 := by rw [← val_vB]; exact vB_digit 65536 (by omega) l i g
theorem wordsInv_done {z : Int} {c : Nat} {m : List Nat} (hz : R256 z) (h : FromInv (decide (z < 0)) z.natAbs 16 m c) : ((val m : Nat) : Int) = z % 115792089237316195423570985008687907853269984665640564039457584007913129639936 := by
  obtain ⟨h1, h2, h3, h4⟩ := h
  have e : (65536 : Nat) ^ 16 = 115792089237316195423570985008687907853269984665640564039457584007913129639936 := by decide
  have hl := val_lt h1
  rw [h2, e] at hl
  rw [e] at h4
  unfold R256 at hz
  by_cases hn : z < 0
  · simp only [hn, decide_true, if_true] at h4
    rw [Nat.mod_eq_of_lt (by omega)] at h4
    have : c = 0 := by
      rcases Nat.lt_or_ge 0 c with h | h
      · have : c = 1 := by omega
        subst this; omega
      · omega
    subst this
    omega
  · simp only [hn, decide_false, Bool.false_eq_true, if_false] at h4
    rw [Nat.mod_eq_of_lt (by omega)] at h4
    omega
set_option maxRecDepth 100000 in
set_option maxHeartbeats 8000000 in
theorem words_loop : True := trivial
set_option maxRecDepth 100000 in
set_option maxHeartbeats 16000000 in
theorem refWords_any (F : Nat → Prop) (w : World) (hF : ∀ k, F k → k < w.heap.size) (A : Option Addr) (c1 : Nat) (l : List Nat) (z : Int) (ha : Sl F w A (dl l)) (ga : CnI l z) (la : l.length ≤ 1000) (ma : l.length ≤ c1) (ma2 : c1 ≤ maxLen) :
    Calls Try.prog 71 #[.agg #[.bool (decide (z < 0)), .slice A l.length c1]] w fun e w' => e = .returned (.tuple #[iV (fitZ z), .bool (decide (R256 z))]) ∧ Below w.heap.size w w' := by
  obtain ⟨b1, o1, H, f1⟩ := (Own.start w).addSl (ha.ro (by rfl))
  clear ha
  by_cases h17 : 16 < l.length
  · have hf := fits_long ga h17
    have e1 : fitZ z = 0 := by unfold fitZ; rw [if_neg hf]
    have e2 : decide (R256 z) = false := by simpa using hf
    rw [e1, e2, iV_zero]
    clear e1 e2 hf
    go_enter Try.func71, Try.ntmps71
    have tk0 : True := trivial
    have tk1 : True := trivial
    have tk2 : True := trivial
    go_wp2_with (guard_target =~ wpList _ _ _ (_ :: _) _ _; (first | (guard_target =~ wpList _ _ _ (Oper.mk _ (.load _ _) _ _ _ _ :: _) _ _; refine BigFrame.wpList_want rfl (fun K hK => ?_); (first | (refine o_loadC (v := ?_) (row := ?_) rfl rfl H ?_ ?_ ?_ (hK _ _ ?_); rotate_left 2; (repeat first | exact .head _ | apply List.Mem.tail); (exact rfl); (focus (intro _; simp; done))) | (refine o_loadNC (row := ?_) rfl rfl H ?_ ?_ ?_ (hK _ _ ?_); rotate_left 1; (repeat first | exact .head _ | apply List.Mem.tail); (focus (intro _; simp; done)); (focus (intro _; simp; done)))); clear hK K) | (guard_target =~ wpList _ _ _ (Oper.mk _ (.store _ _ _) _ _ _ _ :: _) _ _; refine BigFrame.wpList_want rfl (fun K hK => ?_); refine o_store (l' := ?_) (row := ?_) rfl rfl H rfl ?_ ?_ ?_ ?_ (fun w3 H2 => hK _ _ ?_); rotate_left 2; (exact r1); (focus (intro _; simp [Act.eval, Value.cells]; done)); (focus (simp [Act.eval, Value.cells]; done)); (exact rfl); clear hK K; clear H; (try clear w2); revert w3; intro w2 H; simp [Act.eval, Value.cells, setL, List.getD] at H) | ((first | (guard_target =~ wpList _ _ _ (Oper.mk _ (.alloc _) _ _ _ _ :: _) _ _; refine BigFrame.wpList_want rfl (fun K hK => ?_); refine o_alloc (z := ?_) rfl ?_ H rfl (fun w3 b2 he H2 => hK _ _ ?_); rotate_left 1; (focus (intro _; simp; with_reducible exact rfl))) | (guard_target =~ wpList _ _ _ (Oper.mk _ (.box _ _) _ _ _ _ :: _) _ _; refine BigFrame.wpList_want rfl (fun K hK => ?_); refine o_box rfl H rfl (fun w3 b2 he H2 => hK _ _ ?_))); clear hK K he; clear H; (try clear w2); revert w3; intro w2 H; simp [Act.eval, Value.cells, setL, List.getD] at H; (first | (clear tk0; rename Nat => d1) | (clear tk1; rename Nat => d2) | (clear tk2; rename Nat => d4)))); simp only [Act.put, List.setIfInBounds_toArray, List.set_cons_succ, List.set_cons_zero])
    have r4 := H.loadVarN (P := Try.prog) (ty := 23) m1 (by simp) (by simp)
    exact bodyPost_ret (v := .tuple #[.agg #[.int .u64 0, .int .u64 0, .int .u64 0, .int .u64 0], .bool false]) (by simp [results, Try.results71, asAddr, r4]) rfl ⟨rfl, H.below⟩
  · by_cases h16 : l.length = 16 ∧ 32768 ≤ l.getD 15 0
    · obtain ⟨h16, ht⟩ := h16
      have hf := fits_top ga h16 ht
      obtain ⟨d15, hd15⟩ : ∃ t, l.getD 15 0 = t := ⟨_, rfl⟩
      rw [hd15] at hf ht
      have tx : (Res.rd (some ⟨b1, o1, none⟩) b1 o1 (dl l)).at b1 (o1 + 15) [.int .i64 (d15 : Int)] := at_rd (by rw [dl_get (by omega), hd15])
      obtain rfl := H.rdAddr m0 (by rw [dl_length]; omega)
      have hl1 : ((l.length : Int) == 16) = true := by simp; omega
      have h15 : (15 : Int) < (l.length : Int) := by omega
      have hge : decide ((32768 : Int) ≤ (d15 : Int)) = true := by simp; omega
      obtain ⟨t, htt⟩ : ∃ t, decide (d15 = 32768) = t := ⟨_, rfl⟩
      have heq : ((d15 : Int) == 32768) = t := by rw [← htt, Bool.eq_iff_iff]; simp; omega
      rw [htt] at hf
      have gn := ga.nat
      have gl := ga.1
      have hv := ga.2.2
      obtain ⟨s, hs⟩ : ∃ s, decide (z < 0) = s := ⟨_, rfl⟩
      have hdone := fun (hf : R256 z) (c : Nat) (m : List Nat) (h : FromInv (decide (z < 0)) z.natAbs 16 m c) => wordsInv_done hf h
      rw [hs] at hdone hf
      rw [hs]
      obtain ⟨u, hu⟩ : ∃ u, z.natAbs = u := ⟨_, rfl⟩
      rw [hu] at hdone hv gn
      have HD0 := Lib.hid hdone
      have HVV := Lib.hid hv
      have HL := Lib.hid h16
      have HF := Lib.hid hf
      obtain ⟨rr, hrr⟩ : ∃ r, decide (R256 z) = r := ⟨_, rfl⟩
      have HRR := Lib.hid hrr
      rw [hrr]
      clear hdone hv hs hu ga hf h16 ht htt hd15 hrr
      obtain ⟨q0, hq0⟩ : ∃ q0, (s && t) = q0 := ⟨_, rfl⟩
      have HQ0 := Lib.hid hq0
      cases s with
      | true =>
        obtain rfl : t = q0 := by simpa using hq0
        clear hq0
        go_enter Try.func71, Try.ntmps71
        have tk0 : True := trivial
        have tk1 : True := trivial
        have tk2 : True := trivial
        go_wp2_with (guard_target =~ wpList _ _ _ (_ :: _) _ _; (first | (guard_target =~ wpList _ _ _ (Oper.mk _ (.load _ _) _ _ _ _ :: _) _ _; refine BigFrame.wpList_want rfl (fun K hK => ?_); (first | (refine o_load (v := ?_) (r := ?_) rfl rfl H ?_ ?_ ?_ (hK _ _ ?_); rotate_left 2; (with_reducible assumption); (repeat first | exact .head _ | apply List.Mem.tail); (focus (intro _; simp; done))) | (refine o_loadC (v := ?_) (row := ?_) rfl rfl H ?_ ?_ ?_ (hK _ _ ?_); rotate_left 2; (repeat first | exact .head _ | apply List.Mem.tail); (exact rfl); (focus (intro _; simp; done)))); clear hK K) | ((first | (guard_target =~ wpList _ _ _ (Oper.mk _ (.alloc _) _ _ _ _ :: _) _ _; refine BigFrame.wpList_want rfl (fun K hK => ?_); refine o_alloc (z := ?_) rfl ?_ H rfl (fun w3 b2 he H2 => hK _ _ ?_); rotate_left 1; (focus (intro _; simp; with_reducible exact rfl))) | (guard_target =~ wpList _ _ _ (Oper.mk _ (.box _ _) _ _ _ _ :: _) _ _; refine BigFrame.wpList_want rfl (fun K hK => ?_); refine o_box rfl H rfl (fun w3 b2 he H2 => hK _ _ ?_))); clear hK K he; clear H; (try clear w2); revert w3; intro w2 H; simp [Act.eval, Value.cells, setL, List.getD] at H; (first | (clear tk0; rename Nat => d1) | (clear tk1; rename Nat => d2) | (clear tk2; rename Nat => d4)))); simp only [Act.put, List.setIfInBounds_toArray, List.set_cons_succ, List.set_cons_zero])
        go_loopg [6, 5] 15 (LeastRel w (some ⟨b1, o1, none⟩) b1 o1 c1 d1 d2 d4 true t l)
        case atStart => exact ⟨0, rfl, rfl, by simp [val], H⟩
        case round =>
          clear H
          obtain ⟨j, hk, rfl, rfl, H⟩ := hrel
          obtain ⟨lq, hlq⟩ : ∃ lq, (t && decide (val (l.take j) = 0)) = lq := ⟨_, rfl⟩
          rw [hlq]
          have HLQ := Lib.hid hlq
          clear hlq
          by_cases h0 : j < 15
          · have hjl : j < l.length := by omega
            cases lq with
            | true =>
              obtain ⟨y, hy, by_, ty⟩ := dig_at hjl gl
              replace ty := ty (some ⟨b1, o1, none⟩) b1 o1
              obtain ⟨yv, hyv⟩ : ∃ yv, ((y : Int) == 0) = yv := ⟨_, rfl⟩
              go_wp2_with (guard_target =~ wpList _ _ _ (_ :: _) _ _; (guard_target =~ wpList _ _ _ (Oper.mk _ (.load _ _) _ _ _ _ :: _) _ _; refine BigFrame.wpList_want rfl (fun K hK => ?_); (first | (refine o_load (v := ?_) (r := ?_) rfl rfl H ?_ ?_ ?_ (hK _ _ ?_); rotate_left 2; (with_reducible assumption); (repeat first | exact .head _ | apply List.Mem.tail); (focus (intro _; simp; done))) | (refine o_loadC (v := ?_) (row := ?_) rfl rfl H ?_ ?_ ?_ (hK _ _ ?_); rotate_left 2; (repeat first | exact .head _ | apply List.Mem.tail); (exact rfl); (focus (intro _; simp; done)))); clear hK K); simp only [Act.put, List.setIfInBounds_toArray, List.set_cons_succ, List.set_cons_zero])
              go_roundg (15 - (j + 1))
              case rel =>
                refine ⟨j + 1, by omega, by congr 1, ?_, H⟩
                have h1 := HLQ.out
                rw [Bool.and_eq_true, decide_eq_true_eq] at h1
                rw [← hyv, val_take_succ, h1.2, hy.out, h1.1, Bool.true_and]
                rw [dec_pow]
              case measure => omega
            | false =>
              go_wp2_with (go_big_skip)
              go_roundg (15 - (j + 1))
              case rel =>
                refine ⟨j + 1, by omega, by congr 1, ?_, H⟩
                have h1 := HLQ.out
                congr 1
                symm
                rw [Bool.and_eq_false_iff] at h1 ⊢
                rcases h1 with h1 | h1
                · exact .inl h1
                · right
                  rw [decide_eq_false_iff_not] at h1 ⊢
                  rw [val_take_succ]; omega
              case measure => omega
          · obtain rfl : j = 15 := by omega
            have e15 : ((15 : Nat) : Int) = 15 := rfl
            rw [e15]
            clear e15
            have hf : decide (R256 z) = lq := by rw [HF.out, HQ0.out]; exact HLQ.out
            have h5 : rr = lq := HRR.out.symm.trans hf
            have HFF := Lib.hid hf
            subst h5
            clear hf
            cases rr with
            | false =>
              have hfit : fitZ z = 0 := by unfold fitZ; rw [if_neg (by simpa using HFF.out)]
              have HFIT := Lib.hid hfit
              clear hfit
              go_wp2_with (guard_target =~ wpList _ _ _ (_ :: _) _ _; (first | (guard_target =~ wpList _ _ _ (Oper.mk _ (.load _ _) _ _ _ _ :: _) _ _; refine BigFrame.wpList_want rfl (fun K hK => ?_); (refine o_loadNC (row := ?_) rfl rfl H ?_ ?_ ?_ (hK _ _ ?_); rotate_left 1; (repeat first | exact .head _ | apply List.Mem.tail); (focus (intro _; simp; done)); (focus (intro _; simp; done))); clear hK K) | (guard_target =~ wpList _ _ _ (Oper.mk _ (.store _ _ _) _ _ _ _ :: _) _ _; refine BigFrame.wpList_want rfl (fun K hK => ?_); refine o_store (l' := ?_) (row := ?_) rfl rfl H rfl ?_ ?_ ?_ ?_ (fun w3 H2 => hK _ _ ?_); rotate_left 2; (exact r1); (focus (intro _; simp [Act.eval, Value.cells]; done)); (focus (simp [Act.eval, Value.cells]; done)); (exact rfl); clear hK K; clear H; (try clear w2); revert w3; intro w2 H; simp [Act.eval, Value.cells, setL, List.getD] at H)); simp only [Act.put, List.setIfInBounds_toArray, List.set_cons_succ, List.set_cons_zero])
              rw [HFIT.out, iV_zero]
              have r4 := H.loadVarN (P := Try.prog) (ty := 23) m1 (by simp) (by simp)
              exact bodyPost_ret (v := .tuple #[.agg #[.int .u64 0, .int .u64 0, .int .u64 0, .int .u64 0], .bool false]) (by simp [results, Try.results71, asAddr, r4]) rfl ⟨rfl, H.below⟩
            | true =>
              have hf : R256 z := by simpa using HFF.out
              have hfit : fitZ z = z := by unfold fitZ; rw [if_pos hf]
              have HFIT := Lib.hid hfit
              have HDONE := Lib.hid (HD0.out hf)
              clear hfit hf
              go_wp2_with (first | fail)
              go_loopg [7, 8] 16 (WordsRel w (some ⟨b1, o1, none⟩) b1 o1 c1 d1 d2 d4 true l u)
              case atStart =>
                refine ⟨0, 1, [], Nat.zero_add _, rfl, rfl, FromInv.start _ _, ?_⟩
                rw [show val [] = 0 from rfl, w4_zero]
                exact H
              case round =>
                clear H
                obtain ⟨j, c, m, hk, rfl, rfl, hinv, H⟩ := hrel
                by_cases h0 : j < 16
                · have hq : j / 4 < 4 := by omega
                  have hr : j % 4 < 4 := by omega
                  have hj := Lib.hid (show 4 * (j / 4) + j % 4 = j by omega)
                  have HINV := Lib.hid hinv
                  have hc := hinv.2.2.1
                  clear hinv
                  have hdv := digit_val l gl j
                  rw [HVV.out] at hdv
                  have HDV := Lib.hid hdv
                  clear hdv
                  by_cases hjl : j < l.length
                  · obtain ⟨y, hy, by_, ty⟩ := dig_at hjl gl
                    replace ty := ty (some ⟨b1, o1, none⟩) b1 o1
                    go_wp2_with (guard_target =~ wpList _ _ _ (_ :: _) _ _; (guard_target =~ wpList _ _ _ (Oper.mk _ (.load _ _) _ _ _ _ :: _) _ _; refine BigFrame.wpList_want rfl (fun K hK => ?_); (first | (refine o_load (v := ?_) (r := ?_) rfl rfl H ?_ ?_ ?_ (hK _ _ ?_); rotate_left 2; (with_reducible assumption); (repeat first | exact .head _ | apply List.Mem.tail); (focus (intro _; simp; done))) | (refine o_loadC (v := ?_) (row := ?_) rfl rfl H ?_ ?_ ?_ (hK _ _ ?_); rotate_left 2; (repeat first | exact .head _ | apply List.Mem.tail); (exact rfl); (focus (intro _; simp; done)))); clear hK K); simp only [Act.put, List.setIfInBounds_toArray, List.set_cons_succ, List.set_cons_zero])
                    obtain ⟨e, he⟩ : ∃ e, e = (65535 - y + c) % 65536 := ⟨_, rfl⟩
                    have be : e < 65536 := by rw [he]; omega
                    have eI : (65535 - (y : Int) + (c : Int)) % 65536 = ((e : Nat) : Int) := by omega
                    rw [eI]
                    have HE := Lib.hid he
                    clear he eI
                    go_loopg [10, 11] (j % 4) (PowerRel w (some ⟨b1, o1, none⟩) b1 o1 c1 d1 d2 d4 true l m (j % 4))
                    case atStart => exact ⟨0, by omega, rfl, rfl, H⟩
                    case round =>
                      clear H
                      obtain ⟨p, hp, rfl, rfl, H⟩ := hrel
                      have bp : 65536 ^ p ≤ 281474976710656 := by
                        have : 65536 ^ p ≤ 65536 ^ 3 := Nat.pow_le_pow_right (by omega) (by omega)
                        exact this
                      obtain ⟨P, hP⟩ : ∃ P, 65536 ^ p = P := ⟨_, rfl⟩
                      rw [hP] at bp ⊢
                      have HPP := Lib.hid hP
                      clear hP
                      by_cases hpr : p < j % 4
                      · have bp2 : P ≤ 4294967296 := by
                          have : 65536 ^ p ≤ 65536 ^ 2 := Nat.pow_le_pow_right (by omega) (by omega)
                          rw [HPP.out] at this
                          exact this
                        go_wp2_with (first | fail)
                        go_roundg (j % 4 - (p + 1))
                        case rel => exact ⟨p + 1, by omega, by congr 1, by rw [Nat.pow_succ, HPP.out]; rfl, H⟩
                        case measure => omega
                      · obtain rfl : p = j % 4 := by omega
                        obtain ⟨g, hg⟩ : ∃ g, (w4 (val m)).getD (j / 4) 0 = g := ⟨_, rfl⟩
                        have st := w4_step (val m) e (j / 4) (j % 4) hq hr (by rw [hj.out]; have := val_lt HINV.out.1; rwa [HINV.out.2.1] at this) be
                        rw [hg, HPP.out, hj.out] at st
                        obtain ⟨st1, st2⟩ := st
                        obtain ⟨M, hM⟩ : ∃ M, e * P = M := ⟨_, rfl⟩
                        rw [hM] at st1 st2
                        have hM2 : (e : Int) * (P : Int) = (M : Int) := by rw [← hM]; simp
                        have ldW : (Res.cells d4 (wl (w4 (val m)))).at d4 (j / 4) [.int .u64 (g : Int)] := at_cells (by rw [wl_get (by rw [w4_length]; omega), hg])
                        have wlen : (wl (w4 (val m))).length = 4 := by rw [wl_length, w4_length]
                        have ST2 := Lib.hid st2
                        clear hg hM st2
                        go_wp2_with (guard_target =~ wpList _ _ _ (_ :: _) _ _; (first | (guard_target =~ wpList _ _ _ (Oper.mk _ (.load _ _) _ _ _ _ :: _) _ _; refine BigFrame.wpList_want rfl (fun K hK => ?_); (refine o_load (v := ?_) (r := ?_) rfl rfl H ?_ ?_ ?_ (hK _ _ ?_); rotate_left 2; (with_reducible assumption); (repeat first | exact .head _ | apply List.Mem.tail); (focus (intro _; simp [wlen]; done))); clear hK K) | (guard_target =~ wpList _ _ _ (Oper.mk _ (.store _ _ _) _ _ _ _ :: _) _ _; refine BigFrame.wpList_want rfl (fun K hK => ?_); refine o_store (l' := ?_) (row := ?_) rfl rfl H rfl ?_ ?_ ?_ ?_ (fun w3 H2 => hK _ _ ?_); rotate_left 2; (exact r0); (focus (intro _; (simp [Act.eval, Value.cells, List.getD, wlen]; done))); (focus ((try simp [Act.eval, Value.cells, List.getD, wlen]); omega)); (exact rfl); clear hK K; clear H; (try clear w2); revert w3; intro w2 H; (try simp [Act.eval, List.getD, wlen] at H); (try simp [Value.cells, setL, wlen] at H))); simp only [Act.put, List.setIfInBounds_toArray, List.set_cons_succ, List.set_cons_zero, wlen])
                        have e4 : (g : Int) + (M : Int) = ((g + M : Nat) : Int) := by omega
                        rw [e4, wl_set, ST2.out] at H
                        go_roundg (16 - (j + 1))
                        case rel =>
                          refine ⟨j + 1, (65535 - y + c) / 65536, m ++ [e], by omega, by congr 1, by congr 1; omega, by rw [HE.out]; exact HINV.out.neg (HDV.out.symm.trans hy.out) (by omega), ?_⟩
                          rw [val_snoc, HINV.out.2.1]
                          exact H
                        case measure => omega
                  · exfalso; omega
                · obtain rfl : j = 16 := by omega
                  have hT := HDONE.out c m hinv
                  have wlen : (wl (w4 (val m))).length = 4 := by rw [wl_length, w4_length]
                  have hset : ∀ v0 v1 v2 v3 : Value, setL [v0, v1, v2, v3] 0 (wl (w4 (val m))) = wl (w4 (val m)) := fun v0 v1 v2 v3 => by
                    rw [setL_eq _ _ _ (by rw [wlen]; simp), wlen]; simp
                  have hres := iV_w4 z (val m) hT
                  have HRES := Lib.hid hres
                  have e16 : ((16 : Nat) : Int) = 16 := rfl
                  rw [e16]
                  clear hT hres e16
                  go_wp2_with (guard_target =~ wpList _ _ _ (_ :: _) _ _; (first | (guard_target =~ wpList _ _ _ (Oper.mk _ (.load _ _) _ _ _ _ :: _) _ _; refine BigFrame.wpList_want rfl (fun K hK => ?_); (refine o_loadNC (row := ?_) rfl rfl H ?_ ?_ ?_ (hK _ _ ?_); rotate_left 1; (repeat first | exact .head _ | apply List.Mem.tail); (focus (intro _; simp [wlen, hset, wl_one]; done)); (focus (intro _; simp [wlen, hset, wl_one]; done))); clear hK K) | (guard_target =~ wpList _ _ _ (Oper.mk _ (.store _ _ _) _ _ _ _ :: _) _ _; refine BigFrame.wpList_want rfl (fun K hK => ?_); refine o_store (l' := ?_) (row := ?_) rfl rfl H rfl ?_ ?_ ?_ ?_ (fun w3 H2 => hK _ _ ?_); rotate_left 2; (exact r1); (focus (intro _; (simp [Act.eval, Value.cells, List.getD, wlen, hset, wl_one]; done))); (focus (simp [Act.eval, Value.cells, List.getD, wlen, hset, wl_one]; done)); (exact rfl); clear hK K; clear H; (try clear w2); revert w3; intro w2 H; (try simp [Act.eval, List.getD, wlen, hset, wl_one] at H); (try simp [Value.cells, setL, wlen, hset, wl_one] at H))); simp only [Act.put, List.setIfInBounds_toArray, List.set_cons_succ, List.set_cons_zero, wlen, hset, wl_one])
                  have r4 := H.loadVarN (P := Try.prog) (ty := 23) m1 (by simp) (by simp [wlen])
                  rw [HFIT.out, ← HRES.out]
                  exact bodyPost_ret (v := .tuple #[.agg (wl (w4 (val m))).toArray, .bool true]) (by simp [results, Try.results71, asAddr, r4]) rfl ⟨rfl, H.below⟩
      | false =>
        obtain rfl : q0 = false := by simpa using hq0.symm
        clear hq0
        go_enter Try.func71, Try.ntmps71
        have tk0 : True := trivial
        have tk1 : True := trivial
        have tk2 : True := trivial
        go_wp2_with (first
          | go_big_skip
          | (guard_target =~ wpList _ _ _ (_ :: _) _ _; (first | (guard_target =~ wpList _ _ _ (Oper.mk _ (.load _ _) _ _ _ _ :: _) _ _; refine BigFrame.wpList_want rfl (fun K hK => ?_); (first | (refine o_load (v := ?_) (r := ?_) rfl rfl H ?_ ?_ ?_ (hK _ _ ?_); rotate_left 2; (with_reducible assumption); (repeat first | exact .head _ | apply List.Mem.tail); (focus (intro _; simp; done))) | (refine o_loadC (v := ?_) (row := ?_) rfl rfl H ?_ ?_ ?_ (hK _ _ ?_); rotate_left 2; (repeat first | exact .head _ | apply List.Mem.tail); (exact rfl); (focus (intro _; simp; done)))); clear hK K) | ((first | (guard_target =~ wpList _ _ _ (Oper.mk _ (.alloc _) _ _ _ _ :: _) _ _; refine BigFrame.wpList_want rfl (fun K hK => ?_); refine o_alloc (z := ?_) rfl ?_ H rfl (fun w3 b2 he H2 => hK _ _ ?_); rotate_left 1; (focus (intro _; simp; with_reducible exact rfl))) | (guard_target =~ wpList _ _ _ (Oper.mk _ (.box _ _) _ _ _ _ :: _) _ _; refine BigFrame.wpList_want rfl (fun K hK => ?_); refine o_box rfl H rfl (fun w3 b2 he H2 => hK _ _ ?_))); clear hK K he; clear H; (try clear w2); revert w3; intro w2 H; simp [Act.eval, Value.cells, setL, List.getD] at H; (first | (clear tk0; rename Nat => d1) | (clear tk1; rename Nat => d2) | (clear tk2; rename Nat => d4)))); simp only [Act.put, List.setIfInBounds_toArray, List.set_cons_succ, List.set_cons_zero]))
        go_loopg [6, 5] 15 (LeastRel w (some ⟨b1, o1, none⟩) b1 o1 c1 d1 d2 d4 false false l)
        case atStart => exact ⟨0, rfl, rfl, by simp [val], H⟩
        case round =>
          clear H
          obtain ⟨j, hk, rfl, rfl, H⟩ := hrel
          rw [Bool.false_and]
          by_cases h0 : j < 15
          · have hjl : j < l.length := by omega
            go_wp2_with (go_big_skip)
            go_roundg (15 - (j + 1))
            case rel =>
              exact ⟨j + 1, by omega, by congr 1, rfl, H⟩
            case measure => omega
          · obtain rfl : j = 15 := by omega
            have e15 : ((15 : Nat) : Int) = 15 := rfl
            rw [e15]
            clear e15
            have hf : decide (R256 z) = false := by rw [HF.out, HQ0.out]; rfl
            have h5 : rr = false := HRR.out.symm.trans hf
            have HFF := Lib.hid hf
            subst h5
            clear hf
            have hfit : fitZ z = 0 := by unfold fitZ; rw [if_neg (by simpa using HFF.out)]
            have HFIT := Lib.hid hfit
            clear hfit
            go_wp2_with (guard_target =~ wpList _ _ _ (_ :: _) _ _; (first | (guard_target =~ wpList _ _ _ (Oper.mk _ (.load _ _) _ _ _ _ :: _) _ _; refine BigFrame.wpList_want rfl (fun K hK => ?_); (refine o_loadNC (row := ?_) rfl rfl H ?_ ?_ ?_ (hK _ _ ?_); rotate_left 1; (repeat first | exact .head _ | apply List.Mem.tail); (focus (intro _; simp; done)); (focus (intro _; simp; done))); clear hK K) | (guard_target =~ wpList _ _ _ (Oper.mk _ (.store _ _ _) _ _ _ _ :: _) _ _; refine BigFrame.wpList_want rfl (fun K hK => ?_); refine o_store (l' := ?_) (row := ?_) rfl rfl H rfl ?_ ?_ ?_ ?_ (fun w3 H2 => hK _ _ ?_); rotate_left 2; (exact r1); (focus (intro _; simp [Act.eval, Value.cells]; done)); (focus (simp [Act.eval, Value.cells]; done)); (exact rfl); clear hK K; clear H; (try clear w2); revert w3; intro w2 H; simp [Act.eval, Value.cells, setL, List.getD] at H)); simp only [Act.put, List.setIfInBounds_toArray, List.set_cons_succ, List.set_cons_zero])
            rw [HFIT.out, iV_zero]
            have r4 := H.loadVarN (P := Try.prog) (ty := 23) m1 (by simp) (by simp)
            exact bodyPost_ret (v := .tuple #[.agg #[.int .u64 0, .int .u64 0, .int .u64 0, .int .u64 0], .bool false]) (by simp [results, Try.results71, asAddr, r4]) rfl ⟨rfl, H.below⟩
    · have hf := fits_short ga (by omega)
      have e1 : fitZ z = z := by unfold fitZ; rw [if_pos hf]
      have e2 : decide (R256 z) = true := by simpa using hf
      rw [e1, e2]
      have gn := ga.nat
      have gl := ga.1
      have hv := ga.2.2
      obtain ⟨s, hs⟩ : ∃ s, decide (z < 0) = s := ⟨_, rfl⟩
      have hdone := fun (c : Nat) (m : List Nat) (h : FromInv (decide (z < 0)) z.natAbs 16 m c) => wordsInv_done hf h
      rw [hs] at hdone
      rw [hs]
      obtain ⟨u, hu⟩ : ∃ u, z.natAbs = u := ⟨_, rfl⟩
      rw [hu] at hdone hv gn
      have HDONE := Lib.hid hdone
      have HVV := Lib.hid hv
      clear hdone hv
      clear e1 e2 hf hs hu ga
      by_cases hl16 : l.length = 16
      · obtain ⟨t, ht⟩ : ∃ t, l.getD 15 0 = t := ⟨_, rfl⟩
        have ht2 : t < 32768 := by rw [← ht]; omega
        have tx : (Res.rd (some ⟨b1, o1, none⟩) b1 o1 (dl l)).at b1 (o1 + 15) [.int .i64 (t : Int)] := at_rd (by rw [dl_get (by omega), ht])
        obtain rfl := H.rdAddr m0 (by rw [dl_length]; omega)
        have hl1 : ((l.length : Int) == 16) = true := by simp; omega
        have h15 : (15 : Int) < (l.length : Int) := by omega
        have HL := Lib.hid hl16
        have HLT := Lib.hid ht
        have hge : decide ((32768 : Int) ≤ (t : Int)) = false := by simp; omega
        clear hl16 ht h16 ht2
        go_enter Try.func71, Try.ntmps71
        have tk0 : True := trivial
        have tk1 : True := trivial
        have tk2 : True := trivial
        go_wp2_with (guard_target =~ wpList _ _ _ (_ :: _) _ _; (first | (guard_target =~ wpList _ _ _ (Oper.mk _ (.load _ _) _ _ _ _ :: _) _ _; refine BigFrame.wpList_want rfl (fun K hK => ?_); (first | (refine o_load (v := ?_) (r := ?_) rfl rfl H ?_ ?_ ?_ (hK _ _ ?_); rotate_left 2; (with_reducible assumption); (repeat first | exact .head _ | apply List.Mem.tail); (focus (intro _; simp; done))) | (refine o_loadC (v := ?_) (row := ?_) rfl rfl H ?_ ?_ ?_ (hK _ _ ?_); rotate_left 2; (repeat first | exact .head _ | apply List.Mem.tail); (exact rfl); (focus (intro _; simp; done)))); clear hK K) | ((first | (guard_target =~ wpList _ _ _ (Oper.mk _ (.alloc _) _ _ _ _ :: _) _ _; refine BigFrame.wpList_want rfl (fun K hK => ?_); refine o_alloc (z := ?_) rfl ?_ H rfl (fun w3 b2 he H2 => hK _ _ ?_); rotate_left 1; (focus (intro _; simp; with_reducible exact rfl))) | (guard_target =~ wpList _ _ _ (Oper.mk _ (.box _ _) _ _ _ _ :: _) _ _; refine BigFrame.wpList_want rfl (fun K hK => ?_); refine o_box rfl H rfl (fun w3 b2 he H2 => hK _ _ ?_))); clear hK K he; clear H; (try clear w2); revert w3; intro w2 H; simp [Act.eval, Value.cells, setL, List.getD] at H; (first | (clear tk0; rename Nat => d1) | (clear tk1; rename Nat => d2) | (clear tk2; rename Nat => d4)))); simp only [Act.put, List.setIfInBounds_toArray, List.set_cons_succ, List.set_cons_zero])
        go_loopg [7, 8] 16 (WordsRel w (some ⟨b1, o1, none⟩) b1 o1 c1 d1 d2 d4 s l u)
        case atStart =>
          refine ⟨0, 1, [], Nat.zero_add _, rfl, rfl, FromInv.start _ _, ?_⟩
          rw [show val [] = 0 from rfl, w4_zero]
          exact H
        case round =>
          clear H
          obtain ⟨j, c, m, hk, rfl, rfl, hinv, H⟩ := hrel
          by_cases h0 : j < 16
          · have hq : j / 4 < 4 := by omega
            have hr : j % 4 < 4 := by omega
            have hj := Lib.hid (show 4 * (j / 4) + j % 4 = j by omega)
            have HINV := Lib.hid hinv
            have hc := hinv.2.2.1
            clear hinv
            have hdv := digit_val l gl j
            rw [HVV.out] at hdv
            have HDV := Lib.hid hdv
            clear hdv
            by_cases hjl : j < l.length
            · obtain ⟨y, hy, by_, ty⟩ := dig_at hjl gl
              replace ty := ty (some ⟨b1, o1, none⟩) b1 o1
              cases s with
              | true =>
                go_wp2_with (guard_target =~ wpList _ _ _ (_ :: _) _ _; (guard_target =~ wpList _ _ _ (Oper.mk _ (.load _ _) _ _ _ _ :: _) _ _; refine BigFrame.wpList_want rfl (fun K hK => ?_); (first | (refine o_load (v := ?_) (r := ?_) rfl rfl H ?_ ?_ ?_ (hK _ _ ?_); rotate_left 2; (with_reducible assumption); (repeat first | exact .head _ | apply List.Mem.tail); (focus (intro _; simp; done))) | (refine o_loadC (v := ?_) (row := ?_) rfl rfl H ?_ ?_ ?_ (hK _ _ ?_); rotate_left 2; (repeat first | exact .head _ | apply List.Mem.tail); (exact rfl); (focus (intro _; simp; done)))); clear hK K); simp only [Act.put, List.setIfInBounds_toArray, List.set_cons_succ, List.set_cons_zero])
                obtain ⟨e, he⟩ : ∃ e, e = (65535 - y + c) % 65536 := ⟨_, rfl⟩
                have be : e < 65536 := by rw [he]; omega
                have eI : (65535 - (y : Int) + (c : Int)) % 65536 = ((e : Nat) : Int) := by omega
                rw [eI]
                have HE := Lib.hid he
                clear he eI
                go_loopg [10, 11] (j % 4) (PowerRel w (some ⟨b1, o1, none⟩) b1 o1 c1 d1 d2 d4 true l m (j % 4))
                case atStart => exact ⟨0, by omega, rfl, rfl, H⟩
                case round =>
                  clear H
                  obtain ⟨p, hp, rfl, rfl, H⟩ := hrel
                  have bp : 65536 ^ p ≤ 281474976710656 := by
                    have : 65536 ^ p ≤ 65536 ^ 3 := Nat.pow_le_pow_right (by omega) (by omega)
                    exact this
                  obtain ⟨P, hP⟩ : ∃ P, 65536 ^ p = P := ⟨_, rfl⟩
                  rw [hP] at bp ⊢
                  have HPP := Lib.hid hP
                  clear hP
                  by_cases hpr : p < j % 4
                  · have bp2 : P ≤ 4294967296 := by
                      have : 65536 ^ p ≤ 65536 ^ 2 := Nat.pow_le_pow_right (by omega) (by omega)
                      rw [HPP.out] at this
                      exact this
                    go_wp2_with (first | fail)
                    go_roundg (j % 4 - (p + 1))
                    case rel => exact ⟨p + 1, by omega, by congr 1, by rw [Nat.pow_succ, HPP.out]; rfl, H⟩
                    case measure => omega
                  · obtain rfl : p = j % 4 := by omega
                    obtain ⟨g, hg⟩ : ∃ g, (w4 (val m)).getD (j / 4) 0 = g := ⟨_, rfl⟩
                    have st := w4_step (val m) e (j / 4) (j % 4) hq hr (by rw [hj.out]; have := val_lt HINV.out.1; rwa [HINV.out.2.1] at this) be
                    rw [hg, HPP.out, hj.out] at st
                    obtain ⟨st1, st2⟩ := st
                    obtain ⟨M, hM⟩ : ∃ M, e * P = M := ⟨_, rfl⟩
                    rw [hM] at st1 st2
                    have hM2 : (e : Int) * (P : Int) = (M : Int) := by rw [← hM]; simp
                    have ldW : (Res.cells d4 (wl (w4 (val m)))).at d4 (j / 4) [.int .u64 (g : Int)] := at_cells (by rw [wl_get (by rw [w4_length]; omega), hg])
                    have wlen : (wl (w4 (val m))).length = 4 := by rw [wl_length, w4_length]
                    have ST2 := Lib.hid st2
                    clear hg hM st2
                    go_wp2_with (guard_target =~ wpList _ _ _ (_ :: _) _ _; (first | (guard_target =~ wpList _ _ _ (Oper.mk _ (.load _ _) _ _ _ _ :: _) _ _; refine BigFrame.wpList_want rfl (fun K hK => ?_); (refine o_load (v := ?_) (r := ?_) rfl rfl H ?_ ?_ ?_ (hK _ _ ?_); rotate_left 2; (with_reducible assumption); (repeat first | exact .head _ | apply List.Mem.tail); (focus (intro _; simp [wlen]; done))); clear hK K) | (guard_target =~ wpList _ _ _ (Oper.mk _ (.store _ _ _) _ _ _ _ :: _) _ _; refine BigFrame.wpList_want rfl (fun K hK => ?_); refine o_store (l' := ?_) (row := ?_) rfl rfl H rfl ?_ ?_ ?_ ?_ (fun w3 H2 => hK _ _ ?_); rotate_left 2; (exact r0); (focus (intro _; (simp [Act.eval, Value.cells, List.getD, wlen]; done))); (focus ((try simp [Act.eval, Value.cells, List.getD, wlen]); omega)); (exact rfl); clear hK K; clear H; (try clear w2); revert w3; intro w2 H; (try simp [Act.eval, List.getD, wlen] at H); (try simp [Value.cells, setL, wlen] at H))); simp only [Act.put, List.setIfInBounds_toArray, List.set_cons_succ, List.set_cons_zero, wlen])
                    have e4 : (g : Int) + (M : Int) = ((g + M : Nat) : Int) := by omega
                    rw [e4, wl_set, ST2.out] at H
                    go_roundg (16 - (j + 1))
                    case rel =>
                      refine ⟨j + 1, (65535 - y + c) / 65536, m ++ [e], by omega, by congr 1, by congr 1; omega, by rw [HE.out]; exact HINV.out.neg (HDV.out.symm.trans hy.out) (by omega), ?_⟩
                      rw [val_snoc, HINV.out.2.1]
                      exact H
                    case measure => omega
              | false =>
                go_wp2_with (guard_target =~ wpList _ _ _ (_ :: _) _ _; (guard_target =~ wpList _ _ _ (Oper.mk _ (.load _ _) _ _ _ _ :: _) _ _; refine BigFrame.wpList_want rfl (fun K hK => ?_); (first | (refine o_load (v := ?_) (r := ?_) rfl rfl H ?_ ?_ ?_ (hK _ _ ?_); rotate_left 2; (with_reducible assumption); (repeat first | exact .head _ | apply List.Mem.tail); (focus (intro _; simp; done))) | (refine o_loadC (v := ?_) (row := ?_) rfl rfl H ?_ ?_ ?_ (hK _ _ ?_); rotate_left 2; (repeat first | exact .head _ | apply List.Mem.tail); (exact rfl); (focus (intro _; simp; done)))); clear hK K); simp only [Act.put, List.setIfInBounds_toArray, List.set_cons_succ, List.set_cons_zero])
                obtain ⟨e, he⟩ : ∃ e, e = y := ⟨_, rfl⟩
                have be : e < 65536 := by rw [he]; omega
                have eI : (y : Int) = ((e : Nat) : Int) := by omega
                rw [eI]
                have HE := Lib.hid he
                clear he eI
                go_loopg [10, 11] (j % 4) (PowerRel w (some ⟨b1, o1, none⟩) b1 o1 c1 d1 d2 d4 false l m (j % 4))
                case atStart => exact ⟨0, by omega, rfl, rfl, H⟩
                case round =>
                  clear H
                  obtain ⟨p, hp, rfl, rfl, H⟩ := hrel
                  have bp : 65536 ^ p ≤ 281474976710656 := by
                    have : 65536 ^ p ≤ 65536 ^ 3 := Nat.pow_le_pow_right (by omega) (by omega)
                    exact this
                  obtain ⟨P, hP⟩ : ∃ P, 65536 ^ p = P := ⟨_, rfl⟩
                  rw [hP] at bp ⊢
                  have HPP := Lib.hid hP
                  clear hP
                  by_cases hpr : p < j % 4
                  · have bp2 : P ≤ 4294967296 := by
                      have : 65536 ^ p ≤ 65536 ^ 2 := Nat.pow_le_pow_right (by omega) (by omega)
                      rw [HPP.out] at this
                      exact this
                    go_wp2_with (first | fail)
                    go_roundg (j % 4 - (p + 1))
                    case rel => exact ⟨p + 1, by omega, by congr 1, by rw [Nat.pow_succ, HPP.out]; rfl, H⟩
                    case measure => omega
                  · obtain rfl : p = j % 4 := by omega
                    obtain ⟨g, hg⟩ : ∃ g, (w4 (val m)).getD (j / 4) 0 = g := ⟨_, rfl⟩
                    have st := w4_step (val m) e (j / 4) (j % 4) hq hr (by rw [hj.out]; have := val_lt HINV.out.1; rwa [HINV.out.2.1] at this) be
                    rw [hg, HPP.out, hj.out] at st
                    obtain ⟨st1, st2⟩ := st
                    obtain ⟨M, hM⟩ : ∃ M, e * P = M := ⟨_, rfl⟩
                    rw [hM] at st1 st2
                    have hM2 : (e : Int) * (P : Int) = (M : Int) := by rw [← hM]; simp
                    have ldW : (Res.cells d4 (wl (w4 (val m)))).at d4 (j / 4) [.int .u64 (g : Int)] := at_cells (by rw [wl_get (by rw [w4_length]; omega), hg])
                    have wlen : (wl (w4 (val m))).length = 4 := by rw [wl_length, w4_length]
                    have ST2 := Lib.hid st2
                    clear hg hM st2
                    go_wp2_with (guard_target =~ wpList _ _ _ (_ :: _) _ _; (first | (guard_target =~ wpList _ _ _ (Oper.mk _ (.load _ _) _ _ _ _ :: _) _ _; refine BigFrame.wpList_want rfl (fun K hK => ?_); (refine o_load (v := ?_) (r := ?_) rfl rfl H ?_ ?_ ?_ (hK _ _ ?_); rotate_left 2; (with_reducible assumption); (repeat first | exact .head _ | apply List.Mem.tail); (focus (intro _; simp [wlen]; done))); clear hK K) | (guard_target =~ wpList _ _ _ (Oper.mk _ (.store _ _ _) _ _ _ _ :: _) _ _; refine BigFrame.wpList_want rfl (fun K hK => ?_); refine o_store (l' := ?_) (row := ?_) rfl rfl H rfl ?_ ?_ ?_ ?_ (fun w3 H2 => hK _ _ ?_); rotate_left 2; (exact r0); (focus (intro _; (simp [Act.eval, Value.cells, List.getD, wlen]; done))); (focus ((try simp [Act.eval, Value.cells, List.getD, wlen]); omega)); (exact rfl); clear hK K; clear H; (try clear w2); revert w3; intro w2 H; (try simp [Act.eval, List.getD, wlen] at H); (try simp [Value.cells, setL, wlen] at H))); simp only [Act.put, List.setIfInBounds_toArray, List.set_cons_succ, List.set_cons_zero, wlen])
                    have e4 : (g : Int) + (M : Int) = ((g + M : Nat) : Int) := by omega
                    rw [e4, wl_set, ST2.out] at H
                    go_roundg (16 - (j + 1))
                    case rel =>
                      refine ⟨j + 1, c, m ++ [e], by omega, by congr 1, rfl, by rw [HE.out]; exact HINV.out.pos (HDV.out.symm.trans hy.out), ?_⟩
                      rw [val_snoc, HINV.out.2.1]
                      exact H
                    case measure => omega
            · exfalso; omega
          · obtain rfl : j = 16 := by omega
            have hT := HDONE.out c m hinv
            have wlen : (wl (w4 (val m))).length = 4 := by rw [wl_length, w4_length]
            have hset : ∀ v0 v1 v2 v3 : Value, setL [v0, v1, v2, v3] 0 (wl (w4 (val m))) = wl (w4 (val m)) := fun v0 v1 v2 v3 => by
              rw [setL_eq _ _ _ (by rw [wlen]; simp), wlen]; simp
            have hres := iV_w4 z (val m) hT
            have HRES := Lib.hid hres
            have e16 : ((16 : Nat) : Int) = 16 := rfl
            rw [e16]
            clear hT hres e16
            go_wp2_with (guard_target =~ wpList _ _ _ (_ :: _) _ _; (first | (guard_target =~ wpList _ _ _ (Oper.mk _ (.load _ _) _ _ _ _ :: _) _ _; refine BigFrame.wpList_want rfl (fun K hK => ?_); (refine o_loadNC (row := ?_) rfl rfl H ?_ ?_ ?_ (hK _ _ ?_); rotate_left 1; (repeat first | exact .head _ | apply List.Mem.tail); (focus (intro _; simp [wlen, hset, wl_one]; done)); (focus (intro _; simp [wlen, hset, wl_one]; done))); clear hK K) | (guard_target =~ wpList _ _ _ (Oper.mk _ (.store _ _ _) _ _ _ _ :: _) _ _; refine BigFrame.wpList_want rfl (fun K hK => ?_); refine o_store (l' := ?_) (row := ?_) rfl rfl H rfl ?_ ?_ ?_ ?_ (fun w3 H2 => hK _ _ ?_); rotate_left 2; (exact r1); (focus (intro _; (simp [Act.eval, Value.cells, List.getD, wlen, hset, wl_one]; done))); (focus (simp [Act.eval, Value.cells, List.getD, wlen, hset, wl_one]; done)); (exact rfl); clear hK K; clear H; (try clear w2); revert w3; intro w2 H; (try simp [Act.eval, List.getD, wlen, hset, wl_one] at H); (try simp [Value.cells, setL, wlen, hset, wl_one] at H))); simp only [Act.put, List.setIfInBounds_toArray, List.set_cons_succ, List.set_cons_zero, wlen, hset, wl_one])
            have r4 := H.loadVarN (P := Try.prog) (ty := 23) m1 (by simp) (by simp [wlen])
            rw [← HRES.out]
            exact bodyPost_ret (v := .tuple #[.agg (wl (w4 (val m))).toArray, .bool true]) (by simp [results, Try.results71, asAddr, r4]) rfl ⟨rfl, H.below⟩
      · have hl1 : ((l.length : Int) == 16) = false := by simp; omega
        clear hl16 h16
        go_enter Try.func71, Try.ntmps71
        have tk0 : True := trivial
        have tk1 : True := trivial
        have tk2 : True := trivial
        go_wp2_with (first
          | go_big_skip
          | (guard_target =~ wpList _ _ _ (_ :: _) _ _; (first | (guard_target =~ wpList _ _ _ (Oper.mk _ (.load _ _) _ _ _ _ :: _) _ _; refine BigFrame.wpList_want rfl (fun K hK => ?_); (refine o_loadC (v := ?_) (row := ?_) rfl rfl H ?_ ?_ ?_ (hK _ _ ?_); rotate_left 2; (repeat first | exact .head _ | apply List.Mem.tail); (exact rfl); (focus (intro _; simp; done))); clear hK K) | ((first | (guard_target =~ wpList _ _ _ (Oper.mk _ (.alloc _) _ _ _ _ :: _) _ _; refine BigFrame.wpList_want rfl (fun K hK => ?_); refine o_alloc (z := ?_) rfl ?_ H rfl (fun w3 b2 he H2 => hK _ _ ?_); rotate_left 1; (focus (intro _; simp; with_reducible exact rfl))) | (guard_target =~ wpList _ _ _ (Oper.mk _ (.box _ _) _ _ _ _ :: _) _ _; refine BigFrame.wpList_want rfl (fun K hK => ?_); refine o_box rfl H rfl (fun w3 b2 he H2 => hK _ _ ?_))); clear hK K he; clear H; (try clear w2); revert w3; intro w2 H; simp [Act.eval, Value.cells, setL, List.getD] at H; (first | (clear tk0; rename Nat => d1) | (clear tk1; rename Nat => d2) | (clear tk2; rename Nat => d4)))); simp only [Act.put, List.setIfInBounds_toArray, List.set_cons_succ, List.set_cons_zero]))
        go_loopg [7, 8] 16 (WordsRel w A b1 o1 c1 d1 d2 d4 s l u)
        case atStart =>
          refine ⟨0, 1, [], Nat.zero_add _, rfl, rfl, FromInv.start _ _, ?_⟩
          rw [show val [] = 0 from rfl, w4_zero]
          exact H
        case round =>
          clear H
          obtain ⟨j, c, m, hk, rfl, rfl, hinv, H⟩ := hrel
          by_cases h0 : j < 16
          · have hq : j / 4 < 4 := by omega
            have hr : j % 4 < 4 := by omega
            have hj := Lib.hid (show 4 * (j / 4) + j % 4 = j by omega)
            have HINV := Lib.hid hinv
            have hc := hinv.2.2.1
            clear hinv
            have hdv := digit_val l gl j
            rw [HVV.out] at hdv
            have HDV := Lib.hid hdv
            clear hdv
            by_cases hjl : j < l.length
            · obtain ⟨y, hy, by_, ty⟩ := dig_at hjl gl
              obtain rfl := H.rdAddr m3 (by rw [dl_length]; omega)
              replace ty := ty (some ⟨b1, o1, none⟩) b1 o1
              cases s with
              | true =>
                go_wp2_with (guard_target =~ wpList _ _ _ (_ :: _) _ _; (guard_target =~ wpList _ _ _ (Oper.mk _ (.load _ _) _ _ _ _ :: _) _ _; refine BigFrame.wpList_want rfl (fun K hK => ?_); (first | (refine o_load (v := ?_) (r := ?_) rfl rfl H ?_ ?_ ?_ (hK _ _ ?_); rotate_left 2; (with_reducible assumption); (repeat first | exact .head _ | apply List.Mem.tail); (focus (intro _; simp; done))) | (refine o_loadC (v := ?_) (row := ?_) rfl rfl H ?_ ?_ ?_ (hK _ _ ?_); rotate_left 2; (repeat first | exact .head _ | apply List.Mem.tail); (exact rfl); (focus (intro _; simp; done)))); clear hK K); simp only [Act.put, List.setIfInBounds_toArray, List.set_cons_succ, List.set_cons_zero])
                obtain ⟨e, he⟩ : ∃ e, e = (65535 - y + c) % 65536 := ⟨_, rfl⟩
                have be : e < 65536 := by rw [he]; omega
                have eI : (65535 - (y : Int) + (c : Int)) % 65536 = ((e : Nat) : Int) := by omega
                rw [eI]
                have HE := Lib.hid he
                clear he eI
                go_loopg [10, 11] (j % 4) (PowerRel w (some ⟨b1, o1, none⟩) b1 o1 c1 d1 d2 d4 true l m (j % 4))
                case atStart => exact ⟨0, by omega, rfl, rfl, H⟩
                case round =>
                  clear H
                  obtain ⟨p, hp, rfl, rfl, H⟩ := hrel
                  have bp : 65536 ^ p ≤ 281474976710656 := by
                    have : 65536 ^ p ≤ 65536 ^ 3 := Nat.pow_le_pow_right (by omega) (by omega)
                    exact this
                  obtain ⟨P, hP⟩ : ∃ P, 65536 ^ p = P := ⟨_, rfl⟩
                  rw [hP] at bp ⊢
                  have HPP := Lib.hid hP
                  clear hP
                  by_cases hpr : p < j % 4
                  · have bp2 : P ≤ 4294967296 := by
                      have : 65536 ^ p ≤ 65536 ^ 2 := Nat.pow_le_pow_right (by omega) (by omega)
                      rw [HPP.out] at this
                      exact this
                    go_wp2_with (first | fail)
                    go_roundg (j % 4 - (p + 1))
                    case rel => exact ⟨p + 1, by omega, by congr 1, by rw [Nat.pow_succ, HPP.out]; rfl, H⟩
                    case measure => omega
                  · obtain rfl : p = j % 4 := by omega
                    obtain ⟨g, hg⟩ : ∃ g, (w4 (val m)).getD (j / 4) 0 = g := ⟨_, rfl⟩
                    have st := w4_step (val m) e (j / 4) (j % 4) hq hr (by rw [hj.out]; have := val_lt HINV.out.1; rwa [HINV.out.2.1] at this) be
                    rw [hg, HPP.out, hj.out] at st
                    obtain ⟨st1, st2⟩ := st
                    obtain ⟨M, hM⟩ : ∃ M, e * P = M := ⟨_, rfl⟩
                    rw [hM] at st1 st2
                    have hM2 : (e : Int) * (P : Int) = (M : Int) := by rw [← hM]; simp
                    have ldW : (Res.cells d4 (wl (w4 (val m)))).at d4 (j / 4) [.int .u64 (g : Int)] := at_cells (by rw [wl_get (by rw [w4_length]; omega), hg])
                    have wlen : (wl (w4 (val m))).length = 4 := by rw [wl_length, w4_length]
                    have ST2 := Lib.hid st2
                    clear hg hM st2
                    go_wp2_with (guard_target =~ wpList _ _ _ (_ :: _) _ _; (first | (guard_target =~ wpList _ _ _ (Oper.mk _ (.load _ _) _ _ _ _ :: _) _ _; refine BigFrame.wpList_want rfl (fun K hK => ?_); (refine o_load (v := ?_) (r := ?_) rfl rfl H ?_ ?_ ?_ (hK _ _ ?_); rotate_left 2; (with_reducible assumption); (repeat first | exact .head _ | apply List.Mem.tail); (focus (intro _; simp [wlen]; done))); clear hK K) | (guard_target =~ wpList _ _ _ (Oper.mk _ (.store _ _ _) _ _ _ _ :: _) _ _; refine BigFrame.wpList_want rfl (fun K hK => ?_); refine o_store (l' := ?_) (row := ?_) rfl rfl H rfl ?_ ?_ ?_ ?_ (fun w3 H2 => hK _ _ ?_); rotate_left 2; (exact r0); (focus (intro _; (simp [Act.eval, Value.cells, List.getD, wlen]; done))); (focus ((try simp [Act.eval, Value.cells, List.getD, wlen]); omega)); (exact rfl); clear hK K; clear H; (try clear w2); revert w3; intro w2 H; (try simp [Act.eval, List.getD, wlen] at H); (try simp [Value.cells, setL, wlen] at H))); simp only [Act.put, List.setIfInBounds_toArray, List.set_cons_succ, List.set_cons_zero, wlen])
                    have e4 : (g : Int) + (M : Int) = ((g + M : Nat) : Int) := by omega
                    rw [e4, wl_set, ST2.out] at H
                    go_roundg (16 - (j + 1))
                    case rel =>
                      refine ⟨j + 1, (65535 - y + c) / 65536, m ++ [e], by omega, by congr 1, by congr 1; omega, by rw [HE.out]; exact HINV.out.neg (HDV.out.symm.trans hy.out) (by omega), ?_⟩
                      rw [val_snoc, HINV.out.2.1]
                      exact H
                    case measure => omega
              | false =>
                go_wp2_with (guard_target =~ wpList _ _ _ (_ :: _) _ _; (guard_target =~ wpList _ _ _ (Oper.mk _ (.load _ _) _ _ _ _ :: _) _ _; refine BigFrame.wpList_want rfl (fun K hK => ?_); (first | (refine o_load (v := ?_) (r := ?_) rfl rfl H ?_ ?_ ?_ (hK _ _ ?_); rotate_left 2; (with_reducible assumption); (repeat first | exact .head _ | apply List.Mem.tail); (focus (intro _; simp; done))) | (refine o_loadC (v := ?_) (row := ?_) rfl rfl H ?_ ?_ ?_ (hK _ _ ?_); rotate_left 2; (repeat first | exact .head _ | apply List.Mem.tail); (exact rfl); (focus (intro _; simp; done)))); clear hK K); simp only [Act.put, List.setIfInBounds_toArray, List.set_cons_succ, List.set_cons_zero])
                obtain ⟨e, he⟩ : ∃ e, e = y := ⟨_, rfl⟩
                have be : e < 65536 := by rw [he]; omega
                have eI : (y : Int) = ((e : Nat) : Int) := by omega
                rw [eI]
                have HE := Lib.hid he
                clear he eI
                go_loopg [10, 11] (j % 4) (PowerRel w (some ⟨b1, o1, none⟩) b1 o1 c1 d1 d2 d4 false l m (j % 4))
                case atStart => exact ⟨0, by omega, rfl, rfl, H⟩
                case round =>
                  clear H
                  obtain ⟨p, hp, rfl, rfl, H⟩ := hrel
                  have bp : 65536 ^ p ≤ 281474976710656 := by
                    have : 65536 ^ p ≤ 65536 ^ 3 := Nat.pow_le_pow_right (by omega) (by omega)
                    exact this
                  obtain ⟨P, hP⟩ : ∃ P, 65536 ^ p = P := ⟨_, rfl⟩
                  rw [hP] at bp ⊢
                  have HPP := Lib.hid hP
                  clear hP
                  by_cases hpr : p < j % 4
                  · have bp2 : P ≤ 4294967296 := by
                      have : 65536 ^ p ≤ 65536 ^ 2 := Nat.pow_le_pow_right (by omega) (by omega)
                      rw [HPP.out] at this
                      exact this
                    go_wp2_with (first | fail)
                    go_roundg (j % 4 - (p + 1))
                    case rel => exact ⟨p + 1, by omega, by congr 1, by rw [Nat.pow_succ, HPP.out]; rfl, H⟩
                    case measure => omega
                  · obtain rfl : p = j % 4 := by omega
                    obtain ⟨g, hg⟩ : ∃ g, (w4 (val m)).getD (j / 4) 0 = g := ⟨_, rfl⟩
                    have st := w4_step (val m) e (j / 4) (j % 4) hq hr (by rw [hj.out]; have := val_lt HINV.out.1; rwa [HINV.out.2.1] at this) be
                    rw [hg, HPP.out, hj.out] at st
                    obtain ⟨st1, st2⟩ := st
                    obtain ⟨M, hM⟩ : ∃ M, e * P = M := ⟨_, rfl⟩
                    rw [hM] at st1 st2
                    have hM2 : (e : Int) * (P : Int) = (M : Int) := by rw [← hM]; simp
                    have ldW : (Res.cells d4 (wl (w4 (val m)))).at d4 (j / 4) [.int .u64 (g : Int)] := at_cells (by rw [wl_get (by rw [w4_length]; omega), hg])
                    have wlen : (wl (w4 (val m))).length = 4 := by rw [wl_length, w4_length]
                    have ST2 := Lib.hid st2
                    clear hg hM st2
                    go_wp2_with (guard_target =~ wpList _ _ _ (_ :: _) _ _; (first | (guard_target =~ wpList _ _ _ (Oper.mk _ (.load _ _) _ _ _ _ :: _) _ _; refine BigFrame.wpList_want rfl (fun K hK => ?_); (refine o_load (v := ?_) (r := ?_) rfl rfl H ?_ ?_ ?_ (hK _ _ ?_); rotate_left 2; (with_reducible assumption); (repeat first | exact .head _ | apply List.Mem.tail); (focus (intro _; simp [wlen]; done))); clear hK K) | (guard_target =~ wpList _ _ _ (Oper.mk _ (.store _ _ _) _ _ _ _ :: _) _ _; refine BigFrame.wpList_want rfl (fun K hK => ?_); refine o_store (l' := ?_) (row := ?_) rfl rfl H rfl ?_ ?_ ?_ ?_ (fun w3 H2 => hK _ _ ?_); rotate_left 2; (exact r0); (focus (intro _; (simp [Act.eval, Value.cells, List.getD, wlen]; done))); (focus ((try simp [Act.eval, Value.cells, List.getD, wlen]); omega)); (exact rfl); clear hK K; clear H; (try clear w2); revert w3; intro w2 H; (try simp [Act.eval, List.getD, wlen] at H); (try simp [Value.cells, setL, wlen] at H))); simp only [Act.put, List.setIfInBounds_toArray, List.set_cons_succ, List.set_cons_zero, wlen])
                    have e4 : (g : Int) + (M : Int) = ((g + M : Nat) : Int) := by omega
                    rw [e4, wl_set, ST2.out] at H
                    go_roundg (16 - (j + 1))
                    case rel =>
                      refine ⟨j + 1, c, m ++ [e], by omega, by congr 1, rfl, by rw [HE.out]; exact HINV.out.pos (HDV.out.symm.trans hy.out), ?_⟩
                      rw [val_snoc, HINV.out.2.1]
                      exact H
                    case measure => omega
            · have hy0 : l.getD j 0 = 0 := getD_past hjl
              have HY0 := Lib.hid hy0
              clear hy0
              cases s with
              | true =>
                go_wp2_with (guard_target =~ wpList _ _ _ (_ :: _) _ _; (guard_target =~ wpList _ _ _ (Oper.mk _ (.load _ _) _ _ _ _ :: _) _ _; refine BigFrame.wpList_want rfl (fun K hK => ?_); (refine o_loadC (v := ?_) (row := ?_) rfl rfl H ?_ ?_ ?_ (hK _ _ ?_); rotate_left 2; (repeat first | exact .head _ | apply List.Mem.tail); (exact rfl); (focus (intro _; simp; done))); clear hK K); simp only [Act.put, List.setIfInBounds_toArray, List.set_cons_succ, List.set_cons_zero])
                obtain ⟨e, he⟩ : ∃ e, e = (65535 + c) % 65536 := ⟨_, rfl⟩
                have be : e < 65536 := by rw [he]; omega
                have eI : (65535 + (c : Int)) % 65536 = ((e : Nat) : Int) := by omega
                rw [eI]
                have HE := Lib.hid he
                clear he eI
                go_loopg [10, 11] (j % 4) (PowerRel w A b1 o1 c1 d1 d2 d4 true l m (j % 4))
                case atStart => exact ⟨0, by omega, rfl, rfl, H⟩
                case round =>
                  clear H
                  obtain ⟨p, hp, rfl, rfl, H⟩ := hrel
                  have bp : 65536 ^ p ≤ 281474976710656 := by
                    have : 65536 ^ p ≤ 65536 ^ 3 := Nat.pow_le_pow_right (by omega) (by omega)
                    exact this
                  obtain ⟨P, hP⟩ : ∃ P, 65536 ^ p = P := ⟨_, rfl⟩
                  rw [hP] at bp ⊢
                  have HPP := Lib.hid hP
                  clear hP
                  by_cases hpr : p < j % 4
                  · have bp2 : P ≤ 4294967296 := by
                      have : 65536 ^ p ≤ 65536 ^ 2 := Nat.pow_le_pow_right (by omega) (by omega)
                      rw [HPP.out] at this
                      exact this
                    go_wp2_with (first | fail)
                    go_roundg (j % 4 - (p + 1))
                    case rel => exact ⟨p + 1, by omega, by congr 1, by rw [Nat.pow_succ, HPP.out]; rfl, H⟩
                    case measure => omega
                  · obtain rfl : p = j % 4 := by omega
                    obtain ⟨g, hg⟩ : ∃ g, (w4 (val m)).getD (j / 4) 0 = g := ⟨_, rfl⟩
                    have st := w4_step (val m) e (j / 4) (j % 4) hq hr (by rw [hj.out]; have := val_lt HINV.out.1; rwa [HINV.out.2.1] at this) be
                    rw [hg, HPP.out, hj.out] at st
                    obtain ⟨st1, st2⟩ := st
                    obtain ⟨M, hM⟩ : ∃ M, e * P = M := ⟨_, rfl⟩
                    rw [hM] at st1 st2
                    have hM2 : (e : Int) * (P : Int) = (M : Int) := by rw [← hM]; simp
                    have ldW : (Res.cells d4 (wl (w4 (val m)))).at d4 (j / 4) [.int .u64 (g : Int)] := at_cells (by rw [wl_get (by rw [w4_length]; omega), hg])
                    have wlen : (wl (w4 (val m))).length = 4 := by rw [wl_length, w4_length]
                    have ST2 := Lib.hid st2
                    clear hg hM st2
                    go_wp2_with (guard_target =~ wpList _ _ _ (_ :: _) _ _; (first | (guard_target =~ wpList _ _ _ (Oper.mk _ (.load _ _) _ _ _ _ :: _) _ _; refine BigFrame.wpList_want rfl (fun K hK => ?_); (refine o_load (v := ?_) (r := ?_) rfl rfl H ?_ ?_ ?_ (hK _ _ ?_); rotate_left 2; (with_reducible assumption); (repeat first | exact .head _ | apply List.Mem.tail); (focus (intro _; simp [wlen]; done))); clear hK K) | (guard_target =~ wpList _ _ _ (Oper.mk _ (.store _ _ _) _ _ _ _ :: _) _ _; refine BigFrame.wpList_want rfl (fun K hK => ?_); refine o_store (l' := ?_) (row := ?_) rfl rfl H rfl ?_ ?_ ?_ ?_ (fun w3 H2 => hK _ _ ?_); rotate_left 2; (exact r0); (focus (intro _; (simp [Act.eval, Value.cells, List.getD, wlen]; done))); (focus ((try simp [Act.eval, Value.cells, List.getD, wlen]); omega)); (exact rfl); clear hK K; clear H; (try clear w2); revert w3; intro w2 H; (try simp [Act.eval, List.getD, wlen] at H); (try simp [Value.cells, setL, wlen] at H))); simp only [Act.put, List.setIfInBounds_toArray, List.set_cons_succ, List.set_cons_zero, wlen])
                    have e4 : (g : Int) + (M : Int) = ((g + M : Nat) : Int) := by omega
                    rw [e4, wl_set, ST2.out] at H
                    go_roundg (16 - (j + 1))
                    case rel =>
                      refine ⟨j + 1, (65535 + c) / 65536, m ++ [e], by omega, by congr 1, by congr 1, by rw [HE.out]; exact HINV.out.neg (HDV.out.symm.trans HY0.out) (by omega), ?_⟩
                      rw [val_snoc, HINV.out.2.1]
                      exact H
                    case measure => omega
              | false =>
                go_wp2_with (guard_target =~ wpList _ _ _ (_ :: _) _ _; (guard_target =~ wpList _ _ _ (Oper.mk _ (.load _ _) _ _ _ _ :: _) _ _; refine BigFrame.wpList_want rfl (fun K hK => ?_); (refine o_loadC (v := ?_) (row := ?_) rfl rfl H ?_ ?_ ?_ (hK _ _ ?_); rotate_left 2; (repeat first | exact .head _ | apply List.Mem.tail); (exact rfl); (focus (intro _; simp; done))); clear hK K); simp only [Act.put, List.setIfInBounds_toArray, List.set_cons_succ, List.set_cons_zero])
                go_loopg [10, 11] (j % 4) (PowerRel w A b1 o1 c1 d1 d2 d4 false l m (j % 4))
                case atStart => exact ⟨0, by omega, rfl, rfl, H⟩
                case round =>
                  clear H
                  obtain ⟨p, hp, rfl, rfl, H⟩ := hrel
                  have bp : 65536 ^ p ≤ 281474976710656 := by
                    have : 65536 ^ p ≤ 65536 ^ 3 := Nat.pow_le_pow_right (by omega) (by omega)
                    exact this
                  obtain ⟨P, hP⟩ : ∃ P, 65536 ^ p = P := ⟨_, rfl⟩
                  rw [hP] at bp ⊢
                  have HPP := Lib.hid hP
                  clear hP
                  by_cases hpr : p < j % 4
                  · have bp2 : P ≤ 4294967296 := by
                      have : 65536 ^ p ≤ 65536 ^ 2 := Nat.pow_le_pow_right (by omega) (by omega)
                      rw [HPP.out] at this
                      exact this
                    go_wp2_with (first | fail)
                    go_roundg (j % 4 - (p + 1))
                    case rel => exact ⟨p + 1, by omega, by congr 1, by rw [Nat.pow_succ, HPP.out]; rfl, H⟩
                    case measure => omega
                  · obtain rfl : p = j % 4 := by omega
                    obtain ⟨g, hg⟩ : ∃ g, (w4 (val m)).getD (j / 4) 0 = g := ⟨_, rfl⟩
                    have st := w4_step (val m) 0 (j / 4) (j % 4) hq hr (by rw [hj.out]; have := val_lt HINV.out.1; rwa [HINV.out.2.1] at this) (by omega)
                    rw [hg, hj.out] at st
                    obtain ⟨st1, st2⟩ := st
                    rw [Nat.zero_mul, Nat.add_zero, Nat.mul_zero, Nat.add_zero] at st2
                    have ldW : (Res.cells d4 (wl (w4 (val m)))).at d4 (j / 4) [.int .u64 (g : Int)] := at_cells (by rw [wl_get (by rw [w4_length]; omega), hg])
                    have wlen : (wl (w4 (val m))).length = 4 := by rw [wl_length, w4_length]
                    have ST2 := Lib.hid st2
                    clear hg st2
                    go_wp2_with (guard_target =~ wpList _ _ _ (_ :: _) _ _; (first | (guard_target =~ wpList _ _ _ (Oper.mk _ (.load _ _) _ _ _ _ :: _) _ _; refine BigFrame.wpList_want rfl (fun K hK => ?_); (refine o_load (v := ?_) (r := ?_) rfl rfl H ?_ ?_ ?_ (hK _ _ ?_); rotate_left 2; (with_reducible assumption); (repeat first | exact .head _ | apply List.Mem.tail); (focus (intro _; simp [wlen]; done))); clear hK K) | (guard_target =~ wpList _ _ _ (Oper.mk _ (.store _ _ _) _ _ _ _ :: _) _ _; refine BigFrame.wpList_want rfl (fun K hK => ?_); refine o_store (l' := ?_) (row := ?_) rfl rfl H rfl ?_ ?_ ?_ ?_ (fun w3 H2 => hK _ _ ?_); rotate_left 2; (exact r0); (focus (intro _; (simp [Act.eval, Value.cells, List.getD, wlen]; done))); (focus ((try simp [Act.eval, Value.cells, List.getD, wlen]); omega)); (exact rfl); clear hK K; clear H; (try clear w2); revert w3; intro w2 H; (try simp [Act.eval, List.getD, wlen] at H); (try simp [Value.cells, setL, wlen] at H))); simp only [Act.put, List.setIfInBounds_toArray, List.set_cons_succ, List.set_cons_zero, wlen])
                    rw [wl_set, ST2.out] at H
                    go_roundg (16 - (j + 1))
                    case rel =>
                      refine ⟨j + 1, c, m ++ [0], by omega, by congr 1, rfl, by exact HINV.out.pos (HDV.out.symm.trans HY0.out), ?_⟩
                      rw [val_snoc, Nat.mul_zero, Nat.add_zero]
                      exact H
                    case measure => omega
          · obtain rfl : j = 16 := by omega
            have hT := HDONE.out c m hinv
            have wlen : (wl (w4 (val m))).length = 4 := by rw [wl_length, w4_length]
            have hset : ∀ v0 v1 v2 v3 : Value, setL [v0, v1, v2, v3] 0 (wl (w4 (val m))) = wl (w4 (val m)) := fun v0 v1 v2 v3 => by
              rw [setL_eq _ _ _ (by rw [wlen]; simp), wlen]; simp
            have hres := iV_w4 z (val m) hT
            have HRES := Lib.hid hres
            have e16 : ((16 : Nat) : Int) = 16 := rfl
            rw [e16]
            clear hT hres e16
            go_wp2_with (guard_target =~ wpList _ _ _ (_ :: _) _ _; (first | (guard_target =~ wpList _ _ _ (Oper.mk _ (.load _ _) _ _ _ _ :: _) _ _; refine BigFrame.wpList_want rfl (fun K hK => ?_); (refine o_loadNC (row := ?_) rfl rfl H ?_ ?_ ?_ (hK _ _ ?_); rotate_left 1; (repeat first | exact .head _ | apply List.Mem.tail); (focus (intro _; simp [wlen, hset, wl_one]; done)); (focus (intro _; simp [wlen, hset, wl_one]; done))); clear hK K) | (guard_target =~ wpList _ _ _ (Oper.mk _ (.store _ _ _) _ _ _ _ :: _) _ _; refine BigFrame.wpList_want rfl (fun K hK => ?_); refine o_store (l' := ?_) (row := ?_) rfl rfl H rfl ?_ ?_ ?_ ?_ (fun w3 H2 => hK _ _ ?_); rotate_left 2; (exact r1); (focus (intro _; (simp [Act.eval, Value.cells, List.getD, wlen, hset, wl_one]; done))); (focus (simp [Act.eval, Value.cells, List.getD, wlen, hset, wl_one]; done)); (exact rfl); clear hK K; clear H; (try clear w2); revert w3; intro w2 H; (try simp [Act.eval, List.getD, wlen, hset, wl_one] at H); (try simp [Value.cells, setL, wlen, hset, wl_one] at H))); simp only [Act.put, List.setIfInBounds_toArray, List.set_cons_succ, List.set_cons_zero, wlen, hset, wl_one])
            have r4 := H.loadVarN (P := Try.prog) (ty := 23) m1 (by simp) (by simp [wlen])
            rw [← HRES.out]
            exact bodyPost_ret (v := .tuple #[.agg (wl (w4 (val m))).toArray, .bool true]) (by simp [results, Try.results71, asAddr, r4]) rfl ⟨rfl, H.below⟩
end Go.Proofs.Ytmmieilogpmocaa

/-
  A region that draws its order, in which calls that make memory are taken first: a call that answers the same value in every world that keeps what is known, and leaves all that was there as it was, may be taken ahead of all that it doesn't wait for. Nothing of the program stands here.
-/
namespace Go.Proofs.Ytmmieilogpmocaa
set_option linter.unusedVariables false
open Go.RowKit
variable {P : Program} {ops : Array Oper} {Q : Exit → Act → World → Prop}

theorem Ext.refl (w : World) : Ext w w := Below.refl _ _
theorem Ext.trans {w w' w'' : World} (h : Ext w w') (h' : Ext w' w'') : Ext w w'' := Below.trans h (h'.mono h.size)
abbrev noQ : Exit → Act → World → Prop := fun _ _ _ => False
/-- An operation that answers v in every world that meets S, and leaves what was there as it was. -/
def Calm (P : Program) (ops : Array Oper) (S : World → Prop) (o : Oper) (v : Value) (a : Act) : Prop :=
  Region.wanted o (yielded ops a.tmps) = true ∧ ∀ w, S w → o.wp P a w (fun a' w' => a' = a.put o.dst v ∧ Ext w w') noQ
theorem Calm.less {S S' : World → Prop} {o : Oper} {v : Value} {a : Act} (hy : Calm P ops S o v a) (h : ∀ w, S' w → S w) : Calm P ops S' o v a := ⟨hy.1, fun w hw => hy.2 w (h w hw)⟩
theorem letsOut_none (h : LetsOut noQ) : False := by
  obtain ⟨_, _, h⟩ := h
  exact h
theorem wp_noQ {o : Oper} {a : Act} {w : World} {K : Act → World → Prop} (h : o.wp P a w K noQ) : o.wp P a w K Q := by
  unfold Oper.wp at *
  generalize (execOp a.eval o).run P w = r at *
  cases r with
  | ok n w' =>
    cases n <;> simp only [Oper.upon] at h ⊢ <;>
      first
        | exact h
        | exact Calls.mono h (fun e w'' he => by cases e <;> first | exact he | exact he.elim | exact (letsOut_none he).elim)
  | halt x w' => cases x <;> simp only [Oper.upon] at h ⊢ <;> first | exact h | exact h.elim
theorem Calm.wpOp {S : World → Prop} {i : Nat} {o : Oper} {v : Value} {a : Act} (hi : ops[i]? = some o) (hy : Calm P ops S o v a) {K : Act → World → Prop} {w : World} (hS : S w) (h : ∀ w', Ext w w' → K (a.put o.dst v) w') : wpOp P ops Q i K a w := by
  unfold Go.wpOp
  simp only [hi, hy.1, if_true]
  exact .inl (Oper.wp_mono (fun a' w' ⟨h1, h2⟩ => by rw [h1]; exact h w' h2) (wp_noQ (hy.2 w hS)))
/-- What it doesn't look at makes no difference to it. -/
theorem Calm.put {S : World → Prop} {o : Oper} {v : Value} {a : Act} (hy : Calm P ops S o v a) (hs : ∀ cs b, o.op ≠ .select cs b) (dst : Option Tmp) (u : Value) (h : ∀ d, dst = some d → d ∉ o.looksAt ops) (hd : ∀ d, o.dst = some d → dst ≠ some d) : Calm P ops S o v (a.put dst u) := by
  refine ⟨by rw [wanted_put o a dst u h]; exact hy.1, fun w hw => ?_⟩
  have h2 := hy.2 w hw
  unfold Oper.wp at *
  rw [execOp_put o hs a dst u h]
  generalize (execOp a.eval o).run P w = r at *
  have key : ∀ z, a.put o.dst z = a.put o.dst v → (a.put dst u).put o.dst z = (a.put dst u).put o.dst v := fun z hz => by
    rw [← Act.put_comm a z u hd, ← Act.put_comm a v u hd, hz]
  cases r with
  | ok n w' =>
    cases n <;> simp only [Oper.upon] at h2 ⊢
    case value z => exact ⟨key z h2.1, h2.2⟩
    case skip => exact ⟨key _ h2.1, h2.2⟩
    case defer d =>
      exfalso
      have := congrArg (fun x : Act => x.defers.length) h2.1
      cases hdst : o.dst <;> simp [hdst, Act.put] at this
    case enter f args =>
      refine Calls.mono h2 fun e w'' he => ?_
      cases e with
      | returned z => exact ⟨key z he.1, he.2⟩
      | panicked c => exact he
      | outgrown => exact he
    case row row args => exact Rows.mono h2 fun z w'' he => ⟨key z he.1, he.2⟩
    all_goals exact h2
  | halt x w' => cases x <;> simp only [Oper.upon] at h2 ⊢ <;> exact h2
theorem Calm.defers {S : World → Prop} {o : Oper} {v : Value} {a : Act} (hy : Calm P ops S o v a) (d : Deferred) : Calm P ops S o v { a with defers := d :: a.defers } := by
  refine ⟨hy.1, fun w hw => ?_⟩
  have h2 := hy.2 w hw
  unfold Oper.wp at *
  have hev : execOp ({ a with defers := d :: a.defers } : Act).eval o = execOp a.eval o := rfl
  rw [hev]
  generalize (execOp a.eval o).run P w = r at *
  have key : ∀ z, a.put o.dst z = a.put o.dst v → ({ a with defers := d :: a.defers } : Act).put o.dst z = ({ a with defers := d :: a.defers } : Act).put o.dst v := fun z hz => by
    rw [← Act.put_defers, ← Act.put_defers, hz]
  cases r with
  | ok n w' =>
    cases n <;> simp only [Oper.upon] at h2 ⊢
    case value z => exact ⟨key z h2.1, h2.2⟩
    case skip => exact ⟨key _ h2.1, h2.2⟩
    case defer d' =>
      exfalso
      have := congrArg (fun x : Act => x.defers.length) h2.1
      cases hdst : o.dst <;> simp [hdst, Act.put] at this
    case enter f args =>
      refine Calls.mono h2 fun e w'' he => ?_
      cases e with
      | returned z => exact ⟨key z he.1, he.2⟩
      | panicked c => exact he
      | outgrown => exact he
    case row row args => exact Rows.mono h2 fun z w'' he => ⟨key z he.1, he.2⟩
    all_goals exact h2
  | halt x w' => cases x <;> simp only [Oper.upon] at h2 ⊢ <;> exact h2
/-- One operation j that is apart from a calm one i. -/
theorem wpOp_putCalm {S : World → Prop} {j : Nat} {oi oj : Oper} {v : Value} (hj : ops[j]? = some oj) (hap : oi.apart ops oj = true)
    (hsi : ∀ cs b, oi.op ≠ .select cs b) (hsj : ∀ cs b, oj.op ≠ .select cs b)
    (hQ : ∀ c a w, Q (.panic c) (a.put oi.dst v) w → Q (.panic c) a w) {K : Act → World → Prop} {a : Act} {w : World}
    (hy : Calm P ops S oi v a) (h : wpOp P ops Q j K (a.put oi.dst v) w) :
    wpOp P ops Q j (fun a' w' => Calm P ops S oi v a' ∧ K (a'.put oi.dst v) w') a w := by
  obtain ⟨h1, h2, h3⟩ := Oper.apart_spec hap
  have keep : ∀ (a : Act), Calm P ops S oi v a → ∀ u, Calm P ops S oi v (a.put oj.dst u) := fun a hy u => hy.put hsi oj.dst u h3 h2
  unfold wpOp at *
  simp only [hj] at *
  rw [wanted_put oj a oi.dst v h1] at h
  split
  · rename_i hw
    simp only [hw, if_true] at h
    rcases h with h | ⟨hasks, hlets⟩
    case inr => exact .inr ⟨by unfold Oper.asks at *; rw [execOp_put oj hsj a oi.dst v h1] at hasks; exact hasks, hlets⟩
    refine .inl ?_
    unfold Oper.wp at *
    rw [execOp_put oj hsj a oi.dst v h1] at h
    generalize (execOp a.eval oj).run P w = r at *
    cases r with
    | ok n w' =>
      cases n <;> simp only [Oper.upon] at h ⊢
      case value u => exact ⟨keep a hy u, by rw [← Act.put_comm a v u h2]; exact h⟩
      case skip => exact ⟨keep a hy _, by rw [← Act.put_comm a v undef h2]; exact h⟩
      case defer d =>
        refine ⟨keep _ (hy.defers d) _, ?_⟩
        rw [← Act.put_comm _ v undef h2, ← Act.put_defers]
        exact h
      case enter f args =>
        refine Calls.mono h fun e w'' he => ?_
        cases e with
        | returned u => exact ⟨keep a hy u, by rw [← Act.put_comm a v u h2]; exact he⟩
        | panicked c => exact hQ _ _ _ he
        | outgrown => exact he
      case row row args => exact Rows.mono h fun u w'' he => ⟨keep a hy u, by rw [← Act.put_comm a v u h2]; exact he⟩
    | halt x w' =>
      cases x <;> simp only [Oper.upon] at h ⊢
      case panic u => exact hQ _ _ _ h
  · rename_i hw
    simp only [hw] at h
    exact ⟨keep a hy _, by rw [← Act.put_comm a v undef h2]; exact h⟩

/-- A condition that blocks more do not break. -/
def Grows (S : World → Prop) : Prop := ∀ w w', S w → Ext w w' → S w'
/-- An operation that waits for all others. -/
def closer (ops : Array Oper) (j : Nat) : Bool :=
  match ops[j]? with
  | none => false
  | some o => (List.range ops.size).all fun k => k == j || o.after.any fun e => Region.binds .any e && e.on == k
theorem closer_not {done : Array Bool} {i j : Nat} (hj : j ∈ Region.ready .any ops done) (hi : i ∈ Region.ready .any ops done) (hji : j ≠ i) : closer ops j = false := by
  cases hc : closer ops j with
  | false => rfl
  | true =>
    obtain ⟨_, x, hx, hall⟩ := mem_ready.1 hj
    obtain ⟨h0, y, hy, _⟩ := mem_ready.1 hi
    unfold closer at hc
    rw [hx] at hc
    have hlt : i < ops.size := (Array.getElem?_eq_some_iff.1 hy).1
    have := List.all_eq_true.1 hc i (List.mem_range.2 hlt)
    rcases Bool.or_eq_true_iff.1 this with h | h
    · exact absurd (by simpa using h) (Ne.symm hji)
    · obtain ⟨e, he, h⟩ := Array.any_eq_true'.1 h
      simp only [Bool.and_eq_true, beq_iff_eq] at h
      have h1 := hall e he h.1
      rw [h.2] at h1
      rcases Nat.lt_or_ge i done.size with h' | h'
      · simp [h'] at h0 h1; rw [h0] at h1; cases h1
      · simp [Array.getElem?_eq_none h'] at h1
/-- Whatever order is picked from here on, in this world or in one with blocks more. -/
def wpAnyC (P : Program) (ops : Array Oper) (Q : Exit → Act → World → Prop) (S : World → Prop) : Nat → Array Bool → Act → World → Prop
  | 0, done, a, w => Region.ready .any ops done = [] ∧ ∀ w', Ext w w' → Q .normal a w'
  | f + 1, done, a, w => (Region.ready .any ops done = [] → ∀ w', Ext w w' → Q .normal a w') ∧
    ∀ i ∈ Region.ready .any ops done, ∀ w2, Ext w w2 → wpOp P ops Q i (fun a' w' => (closer ops i = true ∨ S w') ∧ wpAnyC P ops Q S f (done.setIfInBounds i true) a' w') a w2
variable {S : World → Prop}
theorem wpAny_of_C : ∀ (f : Nat) (done : Array Bool) (a : Act) (w : World), wpAnyC P ops Q S f done a w → wpAny P .any ops Q f done a w
  | 0, _, _, w, h => ⟨h.1, h.2 w (Ext.refl w)⟩
  | f + 1, _, _, w, h => ⟨fun hr => h.1 hr w (Ext.refl w), fun i hi => wpOp_mono (fun a' w' ⟨_, h'⟩ => wpAny_of_C f _ a' w' h') (h.2 i hi w (Ext.refl w))⟩
theorem wpAnyC_ext : ∀ (f : Nat) (done : Array Bool) (a : Act) (w w' : World), wpAnyC P ops Q S f done a w → Ext w w' → wpAnyC P ops Q S f done a w'
  | 0, _, _, _, _, h, hx => ⟨h.1, fun w2 h2 => h.2 w2 (hx.trans h2)⟩
  | _ + 1, _, _, _, _, h, hx => ⟨fun hr w2 h2 => h.1 hr w2 (hx.trans h2), fun i hi w2 h2 => h.2 i hi w2 (hx.trans h2)⟩
/-- What may be taken first: an operation that yields a value, or a calm one. -/
def First (P : Program) (ops : Array Oper) (S : World → Prop) (o : Oper) (v : Value) (a : Act) : Prop := YieldsIf P ops S o v a ∨ Calm P ops S o v a
theorem First.wpOp {i : Nat} {o : Oper} {v : Value} {a : Act} (hi : ops[i]? = some o) (hy : First P ops S o v a) {K : Act → World → Prop} {w : World} (hS : S w) (h : ∀ w', Ext w w' → K (a.put o.dst v) w') : wpOp P ops Q i K a w := by
  rcases hy with hy | hy
  · exact hy.wpOp hi hS (h w (Ext.refl w))
  · exact hy.wpOp hi hS h
theorem wpOp_putFirst {j : Nat} {oi oj : Oper} {v : Value} (hj : ops[j]? = some oj) (hap : oi.apart ops oj = true)
    (hsi : ∀ cs b, oi.op ≠ .select cs b) (hsj : ∀ cs b, oj.op ≠ .select cs b)
    (hQ : ∀ c a w, Q (.panic c) (a.put oi.dst v) w → Q (.panic c) a w) {K : Act → World → Prop} {a : Act} {w : World}
    (hy : First P ops S oi v a) (h : wpOp P ops Q j K (a.put oi.dst v) w) :
    wpOp P ops Q j (fun a' w' => First P ops S oi v a' ∧ K (a'.put oi.dst v) w') a w := by
  rcases hy with hy | hy
  · exact wpOp_mono (fun a' w' h => ⟨.inl h.1, h.2⟩) (wpOp_putIf hj hap hsi hsj hQ hy h)
  · exact wpOp_mono (fun a' w' h => ⟨.inr h.1, h.2⟩) (wpOp_putCalm hj hap hsi hsj hQ hy h)
theorem wpAnyC_first (hG : Grows S) {i : Nat} {o : Oper} {v : Value} (ho : ops[i]? = some o) (hsel : ∀ (j : Nat) (x : Oper) cs b, ops[j]? = some x → x.op ≠ .select cs b)
    (hQ : ∀ c a w, Q (.panic c) (a.put o.dst v) w → Q (.panic c) a w) :
    ∀ (f : Nat) (done : Array Bool) (a : Act) (w : World),
      (∀ j x, ops[j]? = some x → j ≠ i → done.getD j true = false → (∀ e ∈ x.after, Region.binds .any e = true → e.on ≠ i) → o.apart ops x = true) →
      i ∈ Region.ready .any ops done → First P ops S o v a → S w → wpAnyC P ops Q S f (done.setIfInBounds i true) (a.put o.dst v) w → wpAnyC P ops Q S (f + 1) done a w := by
  intro f
  induction f with
  | zero =>
    intro done a w _ hr hy hS H
    refine ⟨fun h => (by rw [h] at hr; cases hr), fun j hj w2 hx => ?_⟩
    by_cases hji : j = i
    · subst hji; exact hy.wpOp ho (hG _ _ hS hx) fun w3 h3 => ⟨.inr (hG _ _ hS (hx.trans h3)), wpAnyC_ext _ _ _ _ _ H (hx.trans h3)⟩
    · have := ready_mono hj hji
      rw [H.1] at this
      cases this
  | succ f ih =>
    intro done a w hfree hr hy hS H
    refine ⟨fun h => (by rw [h] at hr; cases hr), fun j hj w2 hx => ?_⟩
    by_cases hji : j = i
    · subst hji; exact hy.wpOp ho (hG _ _ hS hx) fun w3 h3 => ⟨.inr (hG _ _ hS (hx.trans h3)), wpAnyC_ext _ _ _ _ _ H (hx.trans h3)⟩
    · have h1 := H.2 j (ready_mono hj hji) w2 hx
      obtain ⟨hjun, x, hxo, hall⟩ := mem_ready.1 hj
      have hnot : ∀ e ∈ x.after, Region.binds .any e = true → e.on ≠ i := fun e he hb heq => by
        have h1 := hall e he hb
        have h0 := (mem_ready.1 hr).1
        rw [heq] at h1
        rcases Nat.lt_or_ge i done.size with h' | h'
        · simp [h'] at h0 h1; rw [h0] at h1; cases h1
        · simp [Array.getElem?_eq_none h'] at h1
      have h2 := wpOp_putFirst hxo (hfree j x hxo hji hjun hnot) (fun cs b => hsel i o cs b ho) (fun cs b => hsel j x cs b hxo) hQ hy h1
      refine wpOp_mono (fun a' w' h3 => ?_) h2
      obtain ⟨hy', hS', hH⟩ := h3
      have hS' := hS'.resolve_left (by rw [closer_not hj hr hji]; simp)
      refine ⟨.inr hS', ih (done.setIfInBounds j true) a' w' ?_ (ready_mono hr (Ne.symm hji)) hy' hS' ?_⟩
      · intro k y hk hki hkun hno
        refine hfree k y hk hki ?_ hno
        by_cases hjk : j = k
        · subst hjk; exact hjun
        · rw [getD_set_ne true hjk] at hkun; exact hkun
      · rw [Array.setIfInBounds_comm _ _ hji]; exact hH

/-- The tree of an order, as in Reg; number i behind 'q' may be a calm call. -/
def wpTreeC (P : Program) (ops : Array Oper) (Q : Exit → Act → World → Prop) : Tr → (World → Prop) → Act → World → Prop
  | .nil, _, a, w => ∀ w', Ext w w' → Q .normal a w'
  | .q i t, S, a, w => ∃ o v, ops[i]? = some o ∧ First P ops S o v a ∧ S w ∧ wpTreeC P ops Q t S (a.put o.dst v) w
  | .e i t, S, a, w => ∀ w2, Ext w w2 → wpOp P ops Q i (fun a' w' => (closer ops i = true ∨ S w') ∧ wpTreeC P ops Q t S a' w') a w2
  | .both s t, S, a, w => wpTreeC P ops Q s S a w ∧ wpTreeC P ops Q t S a w
theorem treeC_branch {B : Tr → Array Bool → Bool} {done : Array Bool} {a : Act} {w : World} {i : Nat} : ∀ {t : Tr}, i ∈ t.heads → brB B done t = true → wpTreeC P ops Q t S a w →
    ∃ t', B t' (done.setIfInBounds i true) = true ∧ ∀ w2, Ext w w2 → wpOp P ops Q i (fun a' w' => (closer ops i = true ∨ S w') ∧ wpTreeC P ops Q t' S a' w') a w2 := by
  intro t
  induction t with
  | nil => intro h; cases h
  | q j t _ => intro h; cases h
  | e j t _ =>
    intro h hB hw
    obtain rfl : i = j := by simpa [Tr.heads] using h
    exact ⟨t, hB, hw⟩
  | both s t hs ht =>
    intro h hB hw
    simp only [brB, Bool.and_eq_true] at hB
    rcases List.mem_append.1 h with h | h
    · exact hs h hB.1 hw.1
    · exact ht h hB.2 hw.2
theorem anyC_tree (hG : Grows S) (hsel : Region.noSelect ops = true) (hQ : ∀ c a d v w, Q (.panic c) (Act.put a d v) w → Q (.panic c) a w) :
    ∀ (f : Nat) (t : Tr) (done : Array Bool) (a : Act) (w : World), treeB ops f t done = true → wpTreeC P ops Q t S a w → wpAnyC P ops Q S f done a w := by
  intro f
  induction f with
  | zero =>
    intro t done a w hB h
    cases t with
    | nil => exact ⟨by simpa [treeB] using hB, h⟩
    | _ => simp [treeB] at hB
  | succ f ih =>
    have branch : ∀ (t : Tr) (done : Array Bool) (a : Act) (w : World), (Region.ready .any ops done == t.heads && !t.heads.isEmpty && brB (treeB ops f) done t) = true → wpTreeC P ops Q t S a w → wpAnyC P ops Q S (f + 1) done a w := by
      intro t done a w hB h
      simp only [Bool.and_eq_true, beq_iff_eq, Bool.not_eq_true'] at hB
      obtain ⟨⟨hr, hne⟩, hb⟩ := hB
      refine ⟨by rw [hr]; intro h0; rw [h0] at hne; simp at hne, fun i hi w2 hx => ?_⟩
      obtain ⟨t', hB', hw'⟩ := treeC_branch (by rw [← hr]; exact hi) hb h
      exact wpOp_mono (fun a' w' ⟨h1, h3⟩ => ⟨h1, ih t' _ _ _ hB' h3⟩) (hw' w2 hx)
    intro t done a w hB h
    cases t with
    | nil => simp [treeB] at hB
    | q i t =>
      simp only [treeB, Bool.and_eq_true] at hB
      obtain ⟨⟨hr, hf⟩, hB'⟩ := hB
      obtain ⟨o, v, ho, hy, hS, hK⟩ := h
      exact wpAnyC_first hG ho (Region.noSelect_spec hsel) (fun c a w h => hQ c a o.dst v w h) f done a w (Region.free_spec ho hf) (by simpa using hr) hy hS (ih _ _ _ _ hB' hK)
    | e i t => exact branch _ done a w hB h
    | both s t => exact branch _ done a w hB h

theorem Suf.sub {l m : List Res} (h : Suf l m) : l.Sublist m := by
  induction h with
  | here => exact .refl _
  | there _ ih => exact .cons _ ih
theorem keeps_grows {B : Nat} {w0 : World} {lf : List Res} : Grows (Keeps B w0 lf) := fun w w' ⟨l, H, hs⟩ hx => ⟨l, H.ext hx, hs⟩
/-- A REGION THAT DRAWS ITS ORDER, by the tree; the first k resources may be written. -/
theorem region_treeC {id : Nat} {a : Act} {w w0 : World} {B : Nat} {rs : List Res} {l : List Oper} {G : Prop} (tag k : Nat) (t : Tr) (hm : P.follows .mixedOrders = true) (hQ : ∀ c a d v w, Q (.panic c) (Act.put a d v) w → Q (.panic c) a w) (hB : treeOk l.toArray t = true)
    (H : Own B w0 w rs) (hG : Key tag G) (h : Key tag G → ∀ w', Own B w0 w' rs → wpTreeC P l.toArray Q t (Keeps B w0 (rs.drop k)) a w') : (Code.region id l.toArray true).wp P Q a w := by
  simp only [treeOk, Bool.and_eq_true] at hB
  exact wp_region_any hm (wpAny_of_C _ _ _ _ (anyC_tree keeps_grows hB.1 hQ _ t _ a w.drew hB.2 (h hG _ H.drew)))
theorem region_treeC0 {id : Nat} {a : Act} {w w0 : World} {B : Nat} {rs : List Res} {l : List Oper} {G : Prop} (tag : Nat) (t : Tr) (hm : P.follows .mixedOrders = true) (hQ : ∀ c a d v w, Q (.panic c) (Act.put a d v) w → Q (.panic c) a w) (hB : treeOk l.toArray t = true)
    (H : Own B w0 w rs) (hG : Key tag G) (h : Key tag G → ∀ w', Own B w0 w' rs → wpTreeC P l.toArray Q t (Keeps B w0 rs) a w') : (Code.region id l.toArray true).wp P Q a w := region_treeC tag 0 t hm hQ hB H hG h

/-! ### The steps -/
section
variable {t s : Tr} {i : Nat} {a : Act} {w w0 : World} {o : Oper} {B : Nat} {lf l : List Res}
theorem treeC_quiet (hS : S w) (ho : ops[i]? = some o) (hb : quietB o.op = true) (hw : Region.wanted o (yielded ops a.tmps) = true)
    (h : ∀ K : Act → Prop, (∀ a, wpTreeC P ops Q t S a w → K a) → o.quiet P a S K) : wpTreeC P ops Q (.q i t) S a w := by
  obtain ⟨v, h1, h2⟩ := h (fun a => wpTreeC P ops Q t S a w) (fun _ h => h)
  refine ⟨o, v, ho, .inl (.inl ⟨hw, fun w' hw' => ?_⟩), hS, h2⟩
  have h3 := h1 w' hw'
  unfold Oper.quietAt at h3
  cases hr : (execOp a.eval o).run P w' with
  | ok n w'' =>
    obtain ⟨u, rfl⟩ := quietB_value hb hr
    rw [hr] at h3
    obtain ⟨rfl, rfl⟩ := h3
    rfl
  | halt x w'' => rw [hr] at h3; exact h3.elim
theorem treeC_skip (hS : S w) (ho : ops[i]? = some o) (hw : Region.wanted o (yielded ops a.tmps) = false) (h : wpTreeC P ops Q t S (a.put o.dst undef) w) : wpTreeC P ops Q (.q i t) S a w := ⟨o, undef, ho, .inl (.inr ⟨hw, rfl⟩), hS, h⟩
/-- A call that is taken first. -/
theorem treeC_call {v : Value} (hS : Keeps B w0 lf w) (ho : ops[i]? = some o) (hw : Region.wanted o (yielded ops a.tmps) = true)
    (h : ∀ w', Own B w0 w' lf → ∀ K : Act → World → Prop, (∀ w2, Ext w' w2 → K (a.put o.dst v) w2) → o.wp P a w' K noQ) (hk : wpTreeC P ops Q t (Keeps B w0 lf) (a.put o.dst v) w) : wpTreeC P ops Q (.q i t) (Keeps B w0 lf) a w :=
  ⟨o, v, ho, .inr ⟨hw, fun w' ⟨l, H, hs⟩ => h w' (H.sub hs.sub) _ fun w2 h2 => ⟨rfl, h2⟩⟩, hS, hk⟩
/-- One that comes up: the goal is the operation alone. -/
theorem treeC_one (H : Own B w0 w l) (ho : ops[i]? = some o) (hw : Region.wanted o (yielded ops a.tmps) = true) (h : ∀ w2, Own B w0 w2 l → ∀ K : Act → World → Prop, (∀ a w', S w' → wpTreeC P ops Q t S a w' → K a w') → o.wp P a w2 K Q) :
    wpTreeC P ops Q (.e i t) S a w := by
  intro w2 hx
  show wpOp P ops Q i _ a w2
  unfold wpOp
  simp only [ho, hw, if_true]
  exact .inl (h w2 (H.ext hx) _ fun a w' h1 h2 => ⟨.inr h1, h2⟩)
/-- The last one, that waits for all others: nothing need be kept. -/
theorem treeC_last (hc : closer ops i = true) (H : Own B w0 w l) (ho : ops[i]? = some o) (hw : Region.wanted o (yielded ops a.tmps) = true) (h : ∀ w2, Own B w0 w2 l → ∀ K : Act → World → Prop, (∀ a w', wpTreeC P ops Q t S a w' → K a w') → o.wp P a w2 K Q) :
    wpTreeC P ops Q (.e i t) S a w := by
  intro w2 hx
  show wpOp P ops Q i _ a w2
  unfold wpOp
  simp only [ho, hw, if_true]
  exact .inl (h w2 (H.ext hx) _ fun a w' h2 => ⟨.inl hc, h2⟩)
theorem treeC_one_skip (hS : ∀ w2, Ext w w2 → S w2) (ho : ops[i]? = some o) (hw : Region.wanted o (yielded ops a.tmps) = false) (h : ∀ w2, Ext w w2 → wpTreeC P ops Q t S (a.put o.dst undef) w2) : wpTreeC P ops Q (.e i t) S a w := by
  intro w2 hx
  show wpOp P ops Q i _ a w2
  unfold wpOp
  simp only [ho, hw, Bool.false_eq_true, if_false]
  exact ⟨.inr (hS w2 hx), h w2 hx⟩
theorem treeC_both (h1 : wpTreeC P ops Q s S a w) (h2 : wpTreeC P ops Q t S a w) : wpTreeC P ops Q (.both s t) S a w := ⟨h1, h2⟩
theorem treeC_nil (H : Own B w0 w l) (h : ∀ w', Own B w0 w' l → Q .normal a w') : wpTreeC P ops Q .nil S a w := fun w' hx => h w' (H.ext hx)
end
end Go.Proofs.Ytmmieilogpmocaa

/-
  Resources: a slice grows by what stands in another one that is read. Nothing of the program stands here.
-/
namespace Go.Proofs.Ytmmieilogpmocaa
set_option linter.unusedVariables false
open Go.RowKit
variable {P : Program} {B : Nat} {w0 w w' : World} {l l' : List Res} {o : Oper} {a : Act} {Q : Exit → Act → World → Prop}
theorem run_append_none {t ty e : TypeId} {i : TypeInfo} (ht : P.underlying t = some (.slice e)) (hi : P.info? e = some i) {v : Value} {n : Nat} {xs : List Value} (hown : w.ownsRow 0 e i.size v n xs) (c : Nat) :
    (Builtin.append_ #[t, t] ty #[v, .slice none 0 c]).run P w = .ok v w := by
  rcases hown.2 with ⟨rfl, rfl⟩ | ⟨g, cap, cur, rfl, hbg, hg, hnc, hcm, hcs, htake⟩
  · simp [Builtin.append_, run_underlying ht, sizeOf, typeInfo, hi, Builtin.lenOf, Builtin.firstCells]
  · simp [Builtin.append_, run_underlying ht, sizeOf, typeInfo, hi, Builtin.lenOf, Builtin.firstCells, hnc, storeCells]
theorem o_appendR {K : Act → World → Prop} {s x' : Operand} {t e : TypeId} {z : Value} {size bytes : Nat} {v : Value} {n m c bb off : Nat} {A : Option Addr} {xs news : List Value} {l' : Value → List Res} (hinfo : (P.info? e).map (fun i => (i.zero, i.size, i.bytes)) = some (some z, size, bytes))
    (ho : o.op = .call { callee := .builtin .append, args := #[s, x'], argTypes := #[t, t] }) (hs : a.eval s = v) (hx : a.eval x' = .slice A m c) (H : Own B w0 w l)
    (hm : Res.rd A bb off news ∈ l) (hl : news.length = m * size)
    (hrep : ∀ v', Rep (.grow e size v n xs) (.grow e size v' (n + m) (xs ++ news)) l (l' v')) (ht : P.underlying t = some (.slice e)) (hzs : z.cells.size = size) (hsz : 0 < size) (h1 : news.all (·.oneCell') = true)
    (h63 : n + m ≤ maxLen) (hbytes : (n + m) * bytes ≤ 140737488355328)
    (hk : ∀ v' w', Own B w0 w' (l' v') → (v' = .slice none 0 0 ↔ v = .slice none 0 0 ∧ m = 0) → K (a.put o.dst v') w') : o.wp P a w K Q := by
  cases hi : P.info? e with
  | none => simp [hi] at hinfo
  | some i =>
    simp only [hi, Option.map_some, Option.some.injEq, Prod.mk.injEq] at hinfo
    obtain ⟨hz, rfl, rfl⟩ := hinfo
    have hg := H.holds _ (hrep v).mem
    have hgl := H.lt _ (hrep v).mem
    have hr := H.holds _ hm
    have h1' : ∀ u ∈ news, u.oneCell' = true := fun u hu => List.all_eq_true.1 h1 u hu
    have key : ∃ v' w', (Builtin.append_ #[t, t] o.type #[v, .slice A m c]).run P w = .ok v' w' ∧ w'.ownsRow 0 e i.size v' (n + m) (xs ++ news) ∧ (∀ k, k < w.heap.size → v.ownBlock ≠ some k → w'.heap[k]? = w.heap[k]?) ∧ Below B w w' ∧
        (v' = .slice none 0 0 ↔ v = .slice none 0 0 ∧ m = 0) ∧ ∀ k, v'.ownBlock = some k → v.ownBlock = some k ∨ w.heap.size ≤ k := by
      have hold : ∀ k, v.ownBlock = some k → k < w.heap.size ∧ B ≤ k := fun k hk => ⟨(hgl k hk).1, (hgl k hk).2 rfl⟩
      cases A with
      | none =>
        have h0 : m = 0 := by
          by_cases hp : 0 < news.length
          · have := hr.1 hp; cases this
          · have : m * i.size = 0 := by omega
            rcases Nat.mul_eq_zero.1 this with h | h
            · exact h
            · omega
        subst h0
        have hn : news = [] := List.eq_nil_of_length_eq_zero (by omega)
        subst hn
        refine ⟨v, w, run_append_none ht hi hg c, by rw [Nat.add_zero, List.append_nil]; exact hg, fun _ _ _ => rfl, Below.refl _ _, by simp, fun k hk => .inl hk⟩
      | some ad =>
        have hnews : ∀ j u, news[j]? = some u → w.cell? (ad.add j) = some u := fun j u hu => by
          have hp : 0 < news.length := Nat.lt_of_le_of_lt (Nat.zero_le _) (List.getElem?_eq_some_iff.1 hu).1
          have := hr.1 hp
          injection this with this
          rw [this, Addr.add_mid]
          exact hr.2 j u hu
        obtain ⟨v', w', hrun, hown, hgrow, hnil⟩ := run_append_own (P := P) w 0 t o.type e i z _ _ ht hi hz rfl rfl hzs hsz v n xs hg ad m c news hl hnews h1' h63 hbytes (Nat.zero_le _)
        have hplace := append_place ht hi hz hg hl hnews h1' h63 hbytes hrun
        exact ⟨v', w', hrun, hown, fun k hk hne => hgrow.block k hk (fun e => hne e.symm), ⟨hgrow.os, hgrow.tape, hgrow.output, hgrow.size, fun k hk' => hgrow.block k (Nat.lt_of_lt_of_le hk' H.base) (fun e => by have := (hold k e.symm).2; omega)⟩, hnil, hplace⟩
    obtain ⟨v', w', hrun, hown, hblk, hbel, hnil, hplace⟩ := key
    unfold Oper.wp execOp
    simp only [ho, resolve, invoke, builtin, Sem.run_bind, Sem.run_pure, Result.andThen_ok, List.map_toArray, List.map_cons, List.map_nil, hs, hx, hrun]
    refine hk v' w' ?_ hnil
    exact H.change (hrep v') rfl rfl hbel (fun k hk' hne => hblk k hk' hne) hown (fun k hk' => (hown.lt k hk').2) hplace
/-- What a callee has made. -/
theorem Own.join (H : Own B w0 w l) (H' : Own w.heap.size w w' l') (hr : l'.all (fun r => !r.ro) = true) : Own B w0 w' (l' ++ l) := by
  have H1 := H.ext H'.below
  have ge : ∀ r ∈ l', ∀ k, r.foot k → w.heap.size ≤ k := fun r hm k hk => (H'.lt r hm k hk).2 (by have := List.all_eq_true.1 hr r hm; simpa using this)
  refine ⟨H1.below, H1.base, fun r hm => ?_, fun r hm k hk => ?_, List.pairwise_append.2 ⟨H'.apart, H1.apart, fun r hm r' hm' => .inr fun k hk hk' => ?_⟩⟩
  · rcases List.mem_append.1 hm with h | h
    · exact H'.holds r h
    · exact H1.holds r h
  · rcases List.mem_append.1 hm with h | h
    · exact ⟨(H'.lt r h k hk).1, fun _ => Nat.le_trans H.base (ge r h k hk)⟩
    · exact H1.lt r h k hk
  · have := ge r hm k hk
    have := (H.lt r' hm' k hk').1
    omega
/-- A slice of the call's own that is not empty. -/
theorem Own.growSome {e size n : Nat} {v : Value} {xs : List Value} (H : Own B w0 w l) (hm : Res.grow e size v n xs ∈ l) (hn : 0 < n) (hs : 0 < size) : ∃ b cap, v = .slice (some ⟨b, 0, none⟩) n cap := by
  have h := H.holds _ hm
  rcases h.2 with ⟨rfl, rfl⟩ | ⟨g, cap, cur, rfl, _⟩
  · have h1 := h.1
    simp at h1
    have := Nat.mul_pos hn hs
    omega
  · exact ⟨g, cap, rfl⟩
theorem at_grow {e size n b c o : Nat} {xs cs : List Value} (h : (xs.drop o).take cs.length = cs) : (Res.grow e size (.slice (some ⟨b, 0, none⟩) n c) n xs).at b o cs := ⟨rfl, h⟩
theorem Sl.cons_ro {F : Nat → Prop} {A : Option Addr} {xs : List Value} (r : Res) (hr : r.ro = true) (h : Sl (FW F l) w A xs) : Sl (FW F (r :: l)) w A xs := h.fewer fun k hk => by
  rcases hk with hk | ⟨x, hx, h1, h2⟩
  · exact .inl hk
  · rcases List.mem_cons.1 hx with rfl | hx
    · rw [hr] at h1; cases h1
    · exact .inr ⟨x, hx, h1, h2⟩
theorem Own.moreRo {F : Nat → Prop} {A : Option Addr} {xs : List Value} {r : Res} (H : Own B w0 w (r :: l)) (hr : r.ro = true) (h : Sl (FW F l) w A xs) : Sl (FW F (r :: l)) w A xs := h.cons_ro r hr
end Go.Proofs.Ytmmieilogpmocaa
