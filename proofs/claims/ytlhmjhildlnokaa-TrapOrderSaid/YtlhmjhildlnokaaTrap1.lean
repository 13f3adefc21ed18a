/-
  The walks of cmp.Or, cmp.Compare, trap.lefts, seg.side, trap.segOf.
-/
import Derived.Test.YtlhmjhildlnokaaTrap0
import Derived.Test.YtlhmjhildlnokaaGeom5
import Derived.Test.YtlhmjhildlnokaaPlan6a
import Derived.Test.YtlhmjhildlnokaaRegC
namespace Go.Proofs.Ytlhmjhildlnokaa
set_option linter.unusedVariables false
set_option linter.unusedSimpArgs false
open Go.RowKit

/-- The first that isn't nought. -/
def orZ : List Int → Int
  | [] => 0
  | x :: l => if x = 0 then orZ l else x
def iR (l : List Int) : List Value := l.map (Value.int .i64)
theorem iR_get {l : List Int} {j : Nat} {x : Int} (h : l[j]? = some x) : (iR l)[j]? = some (.int .i64 x) := by simp [iR, h]
theorem or_zero {l : List Int} (h : ∀ x ∈ l, x = 0) : orZ l = 0 := by
  induction l with
  | nil => rfl
  | cons a l ih =>
    unfold orZ
    rw [if_pos (h a (by simp)), ih fun x hx => h x (by simp [hx])]
theorem or_at : ∀ {l : List Int} {j : Nat} {x : Int}, (∀ y ∈ l.take j, y = 0) → l[j]? = some x → x ≠ 0 → orZ l = x
  | [], j, x, _, h, _ => by simp at h
  | a :: l, 0, x, _, h, hx => by
    obtain rfl : a = x := by simpa using h
    unfold orZ; rw [if_neg hx]
  | a :: l, j + 1, x, hz, h, hx => by
    unfold orZ
    rw [if_pos (hz a (by simp)), or_at (j := j) (fun y hy => hz y (by simp [hy])) (by simpa using h) hx]
set_option maxRecDepth 100000 in
set_option maxHeartbeats 4000000 in
theorem cmpOr_any (xs : List Int) (A : Option Addr) (n c : Nat) (F : Nat → Prop) (w : World) (hn : n = xs.length) (hs : Sl F w A (iR xs)) (hl : n ≤ 1000000) :
    Calls Try.prog 66 #[.slice A n c] w fun e w' => e = .returned (.int .i64 (orZ xs)) ∧ Below w.heap.size w w' := by
  obtain ⟨b0, o0, H, f0⟩ := (Own.start w).addSl (hs.ro (by rfl))
  clear hs
  have HN := Lib.hid hn
  clear hn
  go_enter Try.func66, Try.ntmps66
  go_wp2_with (first | fail)
  go_loopg [8] n (fun k i wr => k ≤ n ∧ i = .int .i64 ((n - k : Nat) : Int) ∧ (∀ y ∈ xs.take (n - k), y = 0) ∧ Own w.heap.size w wr [.rd A b0 o0 (iR xs)])
  case atStart => exact ⟨Nat.le_refl _, by simp, by simp, H⟩
  case round =>
    clear H
    obtain ⟨hk, rfl, hz, H⟩ := hrel
    by_cases hlt : 0 < gk
    · obtain ⟨j, hj⟩ : ∃ j, n - gk = j := ⟨_, rfl⟩
      have hjl : j < n := by omega
      rw [hj] at hz ⊢
      obtain ⟨x, he⟩ : ∃ x, xs[j]? = some x := ⟨_, List.getElem?_eq_getElem (by have := HN.out; omega)⟩
      have he2 := iR_get he
      obtain rfl := H.rdAddr m0 (Nat.lt_of_le_of_lt (Nat.zero_le _) (List.getElem?_eq_some_iff.1 he2).1)
      have hp := at_rd (A := some ⟨b0, o0, none⟩) (b := b0) (off := o0) he2
      obtain ⟨v, hv⟩ : ∃ v, (x != 0) = v := ⟨_, rfl⟩
      have HE := Lib.hid he
      have HJ := Lib.hid hj
      have HZ := Lib.hid hz
      have HV := Lib.hid hv
      clear he he2 hj hz
      cases v
      · go_wp2_with (guard_target =~ wpList _ _ _ (_ :: _) _ _; (guard_target =~ wpList _ _ _ (Oper.mk _ (.load _ _) _ _ _ _ :: _) _ _; refine BigFrame.wpList_want rfl (fun K hK => ?_); (refine o_load (v := ?_) (r := ?_) rfl rfl H ?_ ?_ ?_ (hK _ _ ?_); rotate_left 2; (with_reducible assumption); (repeat first | exact .head _ | apply List.Mem.tail); (focus (intro _; simp; done))); clear hK K); simp only [Act.put, List.setIfInBounds_toArray, List.set_cons_succ, List.set_cons_zero])
        go_roundg (gk - 1)
        case rel =>
          refine ⟨by omega, by have := HJ.out; congr 1; omega, ?_, H⟩
          rw [show n - (gk - 1) = j + 1 by have := HJ.out; omega, List.take_add_one, HE.out]
          intro y hy
          simp only [Option.toList, List.mem_append, List.mem_singleton] at hy
          rcases hy with hy | rfl
          · exact HZ.out y hy
          · simpa using HV.out
        case measure => omega
      · go_wp2_with (guard_target =~ wpList _ _ _ (_ :: _) _ _; (guard_target =~ wpList _ _ _ (Oper.mk _ (.load _ _) _ _ _ _ :: _) _ _; refine BigFrame.wpList_want rfl (fun K hK => ?_); (refine o_load (v := ?_) (r := ?_) rfl rfl H ?_ ?_ ?_ (hK _ _ ?_); rotate_left 2; (with_reducible assumption); (repeat first | exact .head _ | apply List.Mem.tail); (focus (intro _; simp; done))); clear hK K); simp only [Act.put, List.setIfInBounds_toArray, List.set_cons_succ, List.set_cons_zero])
        have hor := or_at HZ.out HE.out (by simpa using HV.out)
        go_ret
        exact ⟨by rw [hor]; rfl, H.below⟩
    · obtain rfl : gk = 0 := by omega
      rw [Nat.sub_zero, List.take_of_length_le (by have := HN.out; omega)] at hz
      have hor := or_zero hz
      clear hz
      go_wp2_with (first | fail)
      go_ret
      exact ⟨by rw [hor]; rfl, H.below⟩
def cmpZ (a b : Int) : Int := if a < b then -1 else if b < a then 1 else 0
set_option maxRecDepth 100000 in
set_option maxHeartbeats 4000000 in
theorem isNaN_any (a : Int) (w : World) : Calls Try.prog 86 #[.int .i64 a] w fun e w' => e = .returned (.bool false) ∧ Below w.heap.size w w' := by
  have H := Own.start w
  go_enter Try.func86, Try.ntmps86
  go_wp2_with (first | fail)
  go_ret
  exact ⟨by simp, H.below⟩
set_option maxRecDepth 100000 in
set_option maxHeartbeats 4000000 in
theorem cmpCompare_any (a b : Int) (w : World) : Calls Try.prog 68 #[.int .i64 a, .int .i64 b] w fun e w' => e = .returned (.int .i64 (cmpZ a b)) ∧ Below w.heap.size w w' := by
  have H := Own.start w
  obtain ⟨v1, hv1⟩ : ∃ v, decide (a < b) = v := ⟨_, rfl⟩
  obtain ⟨v2, hv2⟩ : ∃ v, decide (b < a) = v := ⟨_, rfl⟩
  have hz : cmpZ a b = if v1 then -1 else if v2 then 1 else 0 := by
    unfold cmpZ; rw [← hv1, ← hv2]; simp
  have HZ := Lib.hid hz
  clear hz
  cases v1
  · cases v2
    · go_enter Try.func68, Try.ntmps68
      go_wp2_with (go_at_call 86; (with_reducible refine (isNaN_any _ _).mono ?_); rintro e w3 ⟨rfl, hb⟩; replace H := H.ext hb; clear hb; dsimp only)
      go_ret
      exact ⟨by rw [HZ.out]; rfl, H.below⟩
    · go_enter Try.func68, Try.ntmps68
      go_wp2_with (go_at_call 86; (with_reducible refine (isNaN_any _ _).mono ?_); rintro e w3 ⟨rfl, hb⟩; replace H := H.ext hb; clear hb; dsimp only)
      go_ret
      exact ⟨by rw [HZ.out]; rfl, H.below⟩
  · go_enter Try.func68, Try.ntmps68
    go_wp2_with (go_at_call 86; (with_reducible refine (isNaN_any _ _).mono ?_); rintro e w3 ⟨rfl, hb⟩; replace H := H.ext hb; clear hb; dsimp only)
    go_ret
    exact ⟨by rw [HZ.out]; rfl, H.below⟩
section
variable {P : Program} {o : Oper} {a : Act} {w w0 : World} {B : Nat} {l : List Res} {Q : Exit → Act → World → Prop} {ty : TypeId} {x y : Operand} {b : Nat} {n : Value} {d : List Value} {t0 t1 t2 t3 t4 t5 t6 t7 : Value}
/-- Loads of two cells out of a trapeze: its left, its right; out of a line. -/
theorem q_loadTl {lf : List Res} {K : Act → Prop} (ho : o.op = .load ty x) (hx : a.eval x = .pointer (some ⟨b, 4, none⟩)) (hm : Res.cells b [t0, t1, t2, t3, t4, t5, t6, t7] ∈ lf)
    (ha : ∀ w, (isAgg ty).run P w = .ok true w) (hs : ∀ w, (sizeOf ty).run P w = .ok 2 w) (hk : K (a.put o.dst (.agg #[t4, t5]))) : o.quiet P a (Keeps B w0 lf) K := q_loadN (r := .cells b [t0, t1, t2, t3, t4, t5, t6, t7]) (cs := [t4, t5]) ho hx ⟨rfl, rfl⟩ hm ha hs hk
theorem o_loadTl {K : Act → World → Prop} (ho : o.op = .load ty x) (hx : a.eval x = .pointer (some ⟨b, 4, none⟩)) (H : Own B w0 w l) (hm : Res.cells b [t0, t1, t2, t3, t4, t5, t6, t7] ∈ l)
    (ha : ∀ w, (isAgg ty).run P w = .ok true w) (hs : ∀ w, (sizeOf ty).run P w = .ok 2 w) (hk : K (a.put o.dst (.agg #[t4, t5])) w) : o.wp P a w K Q := o_loadN (r := .cells b [t0, t1, t2, t3, t4, t5, t6, t7]) (cs := [t4, t5]) ho hx H ⟨rfl, rfl⟩ hm ha hs hk
theorem q_loadSa {lf : List Res} {K : Act → Prop} (ho : o.op = .load ty x) (hx : a.eval x = .pointer (some ⟨b, 0, none⟩)) (hm : Res.cells b [t0, t1, t2, t3] ∈ lf)
    (ha : ∀ w, (isAgg ty).run P w = .ok true w) (hs : ∀ w, (sizeOf ty).run P w = .ok 2 w) (hk : K (a.put o.dst (.agg #[t0, t1]))) : o.quiet P a (Keeps B w0 lf) K := q_loadN (r := .cells b [t0, t1, t2, t3]) (cs := [t0, t1]) ho hx ⟨rfl, rfl⟩ hm ha hs hk
theorem o_loadSa {K : Act → World → Prop} (ho : o.op = .load ty x) (hx : a.eval x = .pointer (some ⟨b, 0, none⟩)) (H : Own B w0 w l) (hm : Res.cells b [t0, t1, t2, t3] ∈ l)
    (ha : ∀ w, (isAgg ty).run P w = .ok true w) (hs : ∀ w, (sizeOf ty).run P w = .ok 2 w) (hk : K (a.put o.dst (.agg #[t0, t1])) w) : o.wp P a w K Q := o_loadN (r := .cells b [t0, t1, t2, t3]) (cs := [t0, t1]) ho hx H ⟨rfl, rfl⟩ hm ha hs hk
theorem q_loadSb {lf : List Res} {K : Act → Prop} (ho : o.op = .load ty x) (hx : a.eval x = .pointer (some ⟨b, 2, none⟩)) (hm : Res.cells b [t0, t1, t2, t3] ∈ lf)
    (ha : ∀ w, (isAgg ty).run P w = .ok true w) (hs : ∀ w, (sizeOf ty).run P w = .ok 2 w) (hk : K (a.put o.dst (.agg #[t2, t3]))) : o.quiet P a (Keeps B w0 lf) K := q_loadN (r := .cells b [t0, t1, t2, t3]) (cs := [t2, t3]) ho hx ⟨rfl, rfl⟩ hm ha hs hk
theorem o_loadSb {K : Act → World → Prop} (ho : o.op = .load ty x) (hx : a.eval x = .pointer (some ⟨b, 2, none⟩)) (H : Own B w0 w l) (hm : Res.cells b [t0, t1, t2, t3] ∈ l)
    (ha : ∀ w, (isAgg ty).run P w = .ok true w) (hs : ∀ w, (sizeOf ty).run P w = .ok 2 w) (hk : K (a.put o.dst (.agg #[t2, t3])) w) : o.wp P a w K Q := o_loadN (r := .cells b [t0, t1, t2, t3]) (cs := [t2, t3]) ho hx H ⟨rfl, rfl⟩ hm ha hs hk
end
def leftsZ (a b : Tz) : Int := if a.hl = false ∨ b.hl = false then (if a.hl = b.hl then 0 else if b.hl = true then -1 else 1) else if lessB a.l b.l = true then -1 else if lessB b.l a.l = true then 1 else 0
set_option maxRecDepth 100000 in
set_option maxHeartbeats 8000000 in
theorem lefts_any (s t : Tz) (w : World) : Calls Try.prog 67 #[tzV s, tzV t] w fun e w' => e = .returned (.int .i64 (leftsZ s t)) ∧ Below w.heap.size w w' := by
  obtain ⟨st, sb, shl, shr, ⟨slx, sly⟩, ⟨srx, sry⟩⟩ := s
  obtain ⟨tt, tb, thl, thr, ⟨tlx, tly⟩, ⟨trx, try_⟩⟩ := t
  simp only [tzV]
  have H := Own.start w
  have h1 := fun w => geomLess_any slx sly tlx tly w
  have h2 := fun w => geomLess_any tlx tly slx sly w
  obtain ⟨v1, hv1⟩ : ∃ v, lessB ⟨slx, sly⟩ ⟨tlx, tly⟩ = v := ⟨_, rfl⟩
  obtain ⟨v2, hv2⟩ : ∃ v, lessB ⟨tlx, tly⟩ ⟨slx, sly⟩ = v := ⟨_, rfl⟩
  have hz : leftsZ ⟨st, sb, shl, shr, ⟨slx, sly⟩, ⟨srx, sry⟩⟩ ⟨tt, tb, thl, thr, ⟨tlx, tly⟩, ⟨trx, try_⟩⟩ = if shl = false ∨ thl = false then (if shl = thl then 0 else if thl = true then -1 else 1) else if v1 = true then -1 else if v2 = true then 1 else 0 := by
    unfold leftsZ; rw [← hv1, ← hv2]
  rw [hv1] at h1
  rw [hv2] at h2
  have HZ := Lib.hid hz
  clear hz hv1 hv2
  cases shl <;> cases thl
  · go_enter Try.func67, Try.ntmps67
    have tk0 : True := trivial
    have tk1 : True := trivial
    go_wp2_with (first
      | go_big_skip
      | (guard_target =~ wpList _ _ _ (_ :: _) _ _; (first | (guard_target =~ wpList _ _ _ (Oper.mk _ (.load _ _) _ _ _ _ :: _) _ _; refine BigFrame.wpList_want rfl (fun K hK => ?_); (refine o_loadC (v := ?_) (row := ?_) rfl rfl H ?_ ?_ ?_ (hK _ _ ?_); rotate_left 2; (repeat first | exact .head _ | apply List.Mem.tail); (exact rfl); (focus (intro _; simp; done))); clear hK K) | ((guard_target =~ wpList _ _ _ (Oper.mk _ (.box _ _) _ _ _ _ :: _) _ _; refine BigFrame.wpList_want rfl (fun K hK => ?_); refine o_box rfl H rfl (fun w3 b2 he H2 => hK _ _ ?_)); clear hK K he; clear H; (try clear w2); revert w3; intro w2 H; simp [Act.eval, Value.cells, setL, List.getD] at H; (first | (clear tk0; rename Nat => b1) | (clear tk1; rename Nat => b2)))); simp only [Act.put, List.setIfInBounds_toArray, List.set_cons_succ, List.set_cons_zero]))
    go_ret
    exact ⟨by rw [HZ.out]; rfl, H.below⟩
  · go_enter Try.func67, Try.ntmps67
    have tk0 : True := trivial
    have tk1 : True := trivial
    go_wp2_with (first
      | go_big_skip
      | (guard_target =~ wpList _ _ _ (_ :: _) _ _; (first | (guard_target =~ wpList _ _ _ (Oper.mk _ (.load _ _) _ _ _ _ :: _) _ _; refine BigFrame.wpList_want rfl (fun K hK => ?_); (refine o_loadC (v := ?_) (row := ?_) rfl rfl H ?_ ?_ ?_ (hK _ _ ?_); rotate_left 2; (repeat first | exact .head _ | apply List.Mem.tail); (exact rfl); (focus (intro _; simp; done))); clear hK K) | ((guard_target =~ wpList _ _ _ (Oper.mk _ (.box _ _) _ _ _ _ :: _) _ _; refine BigFrame.wpList_want rfl (fun K hK => ?_); refine o_box rfl H rfl (fun w3 b2 he H2 => hK _ _ ?_)); clear hK K he; clear H; (try clear w2); revert w3; intro w2 H; simp [Act.eval, Value.cells, setL, List.getD] at H; (first | (clear tk0; rename Nat => b1) | (clear tk1; rename Nat => b2)))); simp only [Act.put, List.setIfInBounds_toArray, List.set_cons_succ, List.set_cons_zero]))
    go_ret
    exact ⟨by rw [HZ.out]; rfl, H.below⟩
  · go_enter Try.func67, Try.ntmps67
    have tk0 : True := trivial
    have tk1 : True := trivial
    go_wp2_with (guard_target =~ wpList _ _ _ (_ :: _) _ _; (first | (guard_target =~ wpList _ _ _ (Oper.mk _ (.load _ _) _ _ _ _ :: _) _ _; refine BigFrame.wpList_want rfl (fun K hK => ?_); (refine o_loadC (v := ?_) (row := ?_) rfl rfl H ?_ ?_ ?_ (hK _ _ ?_); rotate_left 2; (repeat first | exact .head _ | apply List.Mem.tail); (exact rfl); (focus (intro _; simp; done))); clear hK K) | ((guard_target =~ wpList _ _ _ (Oper.mk _ (.box _ _) _ _ _ _ :: _) _ _; refine BigFrame.wpList_want rfl (fun K hK => ?_); refine o_box rfl H rfl (fun w3 b2 he H2 => hK _ _ ?_)); clear hK K he; clear H; (try clear w2); revert w3; intro w2 H; simp [Act.eval, Value.cells, setL, List.getD] at H; (first | (clear tk0; rename Nat => b1) | (clear tk1; rename Nat => b2)))); simp only [Act.put, List.setIfInBounds_toArray, List.set_cons_succ, List.set_cons_zero])
    go_ret
    exact ⟨by rw [HZ.out]; rfl, H.below⟩
  · cases v1
    · cases v2
      · go_enter Try.func67, Try.ntmps67
        have tk0 : True := trivial
        have tk1 : True := trivial
        go_wp2_with (first
          | (go_at_call 69; (with_reducible refine (h1 _).mono ?_); rintro e w3 ⟨rfl, hb⟩; replace H := H.ext hb; clear hb; dsimp only)
          | (go_at_call 69; (with_reducible refine (h2 _).mono ?_); rintro e w3 ⟨rfl, hb⟩; replace H := H.ext hb; clear hb; dsimp only)
          | (guard_target =~ wpList _ _ _ (_ :: _) _ _; (first | (guard_target =~ wpList _ _ _ (Oper.mk _ (.load _ _) _ _ _ _ :: _) _ _; refine BigFrame.wpList_want rfl (fun K hK => ?_); (first | (refine o_loadTl (t0 := ?_) (t1 := ?_) (t2 := ?_) (t3 := ?_) (t4 := ?_) (t5 := ?_) (t6 := ?_) (t7 := ?_) rfl rfl H ?_ ?_ ?_ (hK _ _ ?_); rotate_left 8; (repeat first | exact .head _ | apply List.Mem.tail); (focus (intro _; simp; done)); (focus (intro _; simp; done))) | (refine o_loadC (v := ?_) (row := ?_) rfl rfl H ?_ ?_ ?_ (hK _ _ ?_); rotate_left 2; (repeat first | exact .head _ | apply List.Mem.tail); (exact rfl); (focus (intro _; simp; done)))); clear hK K) | ((guard_target =~ wpList _ _ _ (Oper.mk _ (.box _ _) _ _ _ _ :: _) _ _; refine BigFrame.wpList_want rfl (fun K hK => ?_); refine o_box rfl H rfl (fun w3 b2 he H2 => hK _ _ ?_)); clear hK K he; clear H; (try clear w2); revert w3; intro w2 H; simp [Act.eval, Value.cells, setL, List.getD] at H; (first | (clear tk0; rename Nat => b1) | (clear tk1; rename Nat => b2)))); simp only [Act.put, List.setIfInBounds_toArray, List.set_cons_succ, List.set_cons_zero]))
        go_ret
        exact ⟨by rw [HZ.out]; rfl, H.below⟩
      · go_enter Try.func67, Try.ntmps67
        have tk0 : True := trivial
        have tk1 : True := trivial
        go_wp2_with (first
          | (go_at_call 69; (with_reducible refine (h1 _).mono ?_); rintro e w3 ⟨rfl, hb⟩; replace H := H.ext hb; clear hb; dsimp only)
          | (go_at_call 69; (with_reducible refine (h2 _).mono ?_); rintro e w3 ⟨rfl, hb⟩; replace H := H.ext hb; clear hb; dsimp only)
          | (guard_target =~ wpList _ _ _ (_ :: _) _ _; (first | (guard_target =~ wpList _ _ _ (Oper.mk _ (.load _ _) _ _ _ _ :: _) _ _; refine BigFrame.wpList_want rfl (fun K hK => ?_); (first | (refine o_loadTl (t0 := ?_) (t1 := ?_) (t2 := ?_) (t3 := ?_) (t4 := ?_) (t5 := ?_) (t6 := ?_) (t7 := ?_) rfl rfl H ?_ ?_ ?_ (hK _ _ ?_); rotate_left 8; (repeat first | exact .head _ | apply List.Mem.tail); (focus (intro _; simp; done)); (focus (intro _; simp; done))) | (refine o_loadC (v := ?_) (row := ?_) rfl rfl H ?_ ?_ ?_ (hK _ _ ?_); rotate_left 2; (repeat first | exact .head _ | apply List.Mem.tail); (exact rfl); (focus (intro _; simp; done)))); clear hK K) | ((guard_target =~ wpList _ _ _ (Oper.mk _ (.box _ _) _ _ _ _ :: _) _ _; refine BigFrame.wpList_want rfl (fun K hK => ?_); refine o_box rfl H rfl (fun w3 b2 he H2 => hK _ _ ?_)); clear hK K he; clear H; (try clear w2); revert w3; intro w2 H; simp [Act.eval, Value.cells, setL, List.getD] at H; (first | (clear tk0; rename Nat => b1) | (clear tk1; rename Nat => b2)))); simp only [Act.put, List.setIfInBounds_toArray, List.set_cons_succ, List.set_cons_zero]))
        go_ret
        exact ⟨by rw [HZ.out]; rfl, H.below⟩
    · go_enter Try.func67, Try.ntmps67
      have tk0 : True := trivial
      have tk1 : True := trivial
      go_wp2_with (first
        | (go_at_call 69; (with_reducible refine (h1 _).mono ?_); rintro e w3 ⟨rfl, hb⟩; replace H := H.ext hb; clear hb; dsimp only)
        | (guard_target =~ wpList _ _ _ (_ :: _) _ _; (first | (guard_target =~ wpList _ _ _ (Oper.mk _ (.load _ _) _ _ _ _ :: _) _ _; refine BigFrame.wpList_want rfl (fun K hK => ?_); (first | (refine o_loadTl (t0 := ?_) (t1 := ?_) (t2 := ?_) (t3 := ?_) (t4 := ?_) (t5 := ?_) (t6 := ?_) (t7 := ?_) rfl rfl H ?_ ?_ ?_ (hK _ _ ?_); rotate_left 8; (repeat first | exact .head _ | apply List.Mem.tail); (focus (intro _; simp; done)); (focus (intro _; simp; done))) | (refine o_loadC (v := ?_) (row := ?_) rfl rfl H ?_ ?_ ?_ (hK _ _ ?_); rotate_left 2; (repeat first | exact .head _ | apply List.Mem.tail); (exact rfl); (focus (intro _; simp; done)))); clear hK K) | ((guard_target =~ wpList _ _ _ (Oper.mk _ (.box _ _) _ _ _ _ :: _) _ _; refine BigFrame.wpList_want rfl (fun K hK => ?_); refine o_box rfl H rfl (fun w3 b2 he H2 => hK _ _ ?_)); clear hK K he; clear H; (try clear w2); revert w3; intro w2 H; simp [Act.eval, Value.cells, setL, List.getD] at H; (first | (clear tk0; rename Nat => b1) | (clear tk1; rename Nat => b2)))); simp only [Act.put, List.setIfInBounds_toArray, List.set_cons_succ, List.set_cons_zero]))
      go_ret
      exact ⟨by rw [HZ.out]; rfl, H.below⟩

/-! ### Which line is above -/
def sideZ (s t : Sg) : Int := if lessB s.a t.a = true then orZ [turnB s.a s.b t.a, turnB s.a s.b t.b] else orZ [- turnB t.a t.b s.a, - turnB t.a t.b s.b, turnB s.a s.b t.b]
theorem turnB_pm (a b c : Pt) : -1 ≤ turnB a b c ∧ turnB a b c ≤ 1 := by
  unfold turnB
  split
  · exact turn_pm a b c
  · omega
theorem cmpOr2 {B b : Nat} {w0 w : World} {l : List Res} {u v : Int} (H : Own B w0 w (.cells b [.int .i64 u, .int .i64 v] :: l)) : Calls Try.prog 66 #[.slice (some ⟨b, 0, none⟩) 2 2] w fun e w' => e = .returned (.int .i64 (orZ [u, v])) ∧ Below w.heap.size w w' :=
  cmpOr_any [u, v] _ 2 2 (fun _ => False) w rfl (H.giveCells m0 (fun _ h => h.elim) 0 rfl) (by omega)
theorem cmpOr3 {B b : Nat} {w0 w : World} {l : List Res} {u v x : Int} (H : Own B w0 w (.cells b [.int .i64 u, .int .i64 v, .int .i64 x] :: l)) : Calls Try.prog 66 #[.slice (some ⟨b, 0, none⟩) 3 3] w fun e w' => e = .returned (.int .i64 (orZ [u, v, x])) ∧ Below w.heap.size w w' :=
  cmpOr_any [u, v, x] _ 3 3 (fun _ => False) w rfl (H.giveCells m0 (fun _ h => h.elim) 0 rfl) (by omega)
set_option maxRecDepth 100000 in
set_option maxHeartbeats 8000000 in
theorem side_any (s t : Sg) (w : World) : Calls Try.prog 94 #[sgV s, sgV t] w fun e w' => e = .returned (.int .i64 (sideZ s t)) ∧ Below w.heap.size w w' := by
  obtain ⟨⟨ax, ay⟩, ⟨bx, b_y⟩⟩ := s
  obtain ⟨⟨cx, cy⟩, ⟨dx, dy⟩⟩ := t
  simp only [sgV]
  have H := Own.start w
  have h1 := fun w => geomLess_any ax ay cx cy w
  obtain ⟨v1, hv1⟩ : ∃ v, lessB ⟨ax, ay⟩ ⟨cx, cy⟩ = v := ⟨_, rfl⟩
  have p1 := turnB_pm ⟨cx, cy⟩ ⟨dx, dy⟩ ⟨ax, ay⟩
  have p2 := turnB_pm ⟨cx, cy⟩ ⟨dx, dy⟩ ⟨bx, b_y⟩
  have t1 := fun w => geomTurn_any ax ay bx b_y cx cy w
  have t2 := fun w => geomTurn_any ax ay bx b_y dx dy w
  have t3 := fun w => geomTurn_any cx cy dx dy ax ay w
  have t4 := fun w => geomTurn_any cx cy dx dy bx b_y w
  have hz : sideZ ⟨⟨ax, ay⟩, ⟨bx, b_y⟩⟩ ⟨⟨cx, cy⟩, ⟨dx, dy⟩⟩ = if v1 = true then orZ [turnB ⟨ax, ay⟩ ⟨bx, b_y⟩ ⟨cx, cy⟩, turnB ⟨ax, ay⟩ ⟨bx, b_y⟩ ⟨dx, dy⟩] else orZ [- turnB ⟨cx, cy⟩ ⟨dx, dy⟩ ⟨ax, ay⟩, - turnB ⟨cx, cy⟩ ⟨dx, dy⟩ ⟨bx, b_y⟩, turnB ⟨ax, ay⟩ ⟨bx, b_y⟩ ⟨dx, dy⟩] := by
    unfold sideZ; rw [← hv1]
  rw [hv1] at h1
  generalize turnB ⟨ax, ay⟩ ⟨bx, b_y⟩ ⟨cx, cy⟩ = u1 at *
  generalize turnB ⟨ax, ay⟩ ⟨bx, b_y⟩ ⟨dx, dy⟩ = u2 at *
  generalize turnB ⟨cx, cy⟩ ⟨dx, dy⟩ ⟨ax, ay⟩ = u3 at *
  generalize turnB ⟨cx, cy⟩ ⟨dx, dy⟩ ⟨bx, b_y⟩ = u4 at *
  have e1 : IntKind.i64.wrap (-u3) = -u3 := IntWalk.i64_in _ (by omega)
  have e2 : IntKind.i64.wrap (-u4) = -u4 := IntWalk.i64_in _ (by omega)
  have HZ := Lib.hid hz
  clear hz hv1 p1 p2
  cases v1
  · go_enter Try.func94, Try.ntmps94
    have tk0 : True := trivial
    have tk1 : True := trivial
    go_wp2_with (first
      | (go_at_call 69; (with_reducible refine (h1 _).mono ?_); rintro e w3 ⟨rfl, hb⟩; replace H := H.ext hb; clear hb; dsimp only; (skip))
      | (go_at_call 66; (with_reducible refine (cmpOr3 H).mono ?_); rintro e w3 ⟨rfl, hb⟩; replace H := H.ext hb; clear hb; dsimp only; (refine hK _ _ ⟨_, H, by repeat first | exact .here | apply Suf.there⟩ ?_; clear hK K; (try simp only [Act.put, List.setIfInBounds_toArray, List.set_cons_succ, List.set_cons_zero])))
      | (guard_target =~ Code.wp _ (Code.region 3 _ true) _ _ _; refine region_treeC0 3 (G := True) (.q 0 (.q 1 (.q 2 (.q 3 (.q 4 (.q 5 (.q 6 (.q 7 (.q 8 (.q 9 (.q 10 (.q 11 (.q 12 (.q 13 (.q 14 (.q 15 (.q 16 (.q 17 (.q 18 (.q 19 (.q 20 (.q 21 (.q 22 (.e 23 (.e 24 (.q 25 .nil)))))))))))))))))))))))))) (by kernel_rfl) (by intro c a d v w h; cases d <;> first | exact h | exact hQ h) (by kernel_rfl) H ⟨trivial⟩ (fun _ w3 H2 => ?_); (clear H; (try clear w2); revert w3; intro w2 H))
      | (guard_target =~ wpList _ _ _ (_ :: _) _ _; (first | (guard_target =~ wpList _ _ _ (Oper.mk _ (.load _ _) _ _ _ _ :: _) _ _; refine BigFrame.wpList_want rfl (fun K hK => ?_); (refine o_loadSa (t0 := ?_) (t1 := ?_) (t2 := ?_) (t3 := ?_) rfl rfl H ?_ ?_ ?_ (hK _ _ ?_); rotate_left 4; (repeat first | exact .head _ | apply List.Mem.tail); (focus (intro _; simp; done)); (focus (intro _; simp; done))); clear hK K) | ((guard_target =~ wpList _ _ _ (Oper.mk _ (.box _ _) _ _ _ _ :: _) _ _; refine BigFrame.wpList_want rfl (fun K hK => ?_); refine o_box rfl H rfl (fun w3 b2 he H2 => hK _ _ ?_)); clear hK K he; clear H; (try clear w2); revert w3; intro w2 H; simp [Act.eval, Value.cells, setL, List.getD] at H; (first | (clear tk0; rename Nat => b1) | (clear tk1; rename Nat => b2)))); simp only [Act.put, List.setIfInBounds_toArray, List.set_cons_succ, List.set_cons_zero])
      | (guard_target =~ wpTreeC _ _ _ _ _ _ _; first | (guard_target =~ wpTreeC _ _ _ (Tr.e _ Tr.nil) _ _ _; refine treeC_last (by decide +kernel) H rfl rfl (fun w3 H2 K hK => ?_); clear H; (try clear w2); (revert w3; intro w2 H); simp only [List.getElem_toArray, List.getElem_cons_succ, List.getElem_cons_zero]; (first | fail); simp only [Act.put, List.setIfInBounds_toArray, List.set_cons_succ, List.set_cons_zero]) | (guard_target =~ wpTreeC _ _ _ (Tr.q _ _) _ _ _; first | (refine treeC_quiet ⟨_, H, by repeat first | exact .here | apply Suf.there⟩ rfl rfl rfl (fun K hK => ?_); simp only [List.getElem_toArray, List.getElem_cons_succ, List.getElem_cons_zero]; first | (guard_target =~ Oper.quiet _ (Oper.mk _ (.load _ _) _ _ _ _) _ _ _; (first | (refine q_loadSa (t0 := ?_) (t1 := ?_) (t2 := ?_) (t3 := ?_) rfl rfl ?_ ?_ ?_ (hK _ ?_); rotate_left 4; (repeat first | exact .head _ | apply List.Mem.tail); (focus (intro _; simp; done)); (focus (intro _; simp; done))) | (refine q_loadSb (t0 := ?_) (t1 := ?_) (t2 := ?_) (t3 := ?_) rfl rfl ?_ ?_ ?_ (hK _ ?_); rotate_left 4; (repeat first | exact .head _ | apply List.Mem.tail); (focus (intro _; simp; done)); (focus (intro _; simp; done)))); clear hK K; simp only [Act.put, List.setIfInBounds_toArray, List.set_cons_succ, List.set_cons_zero]) | (go_big_quiet_op; (try refine ⟨_, fun _ _ => rfl, ?_⟩); refine hK _ ?_; clear hK K)) | (refine treeC_call (v := ?_) ⟨_, H, by repeat first | exact .here | apply Suf.there⟩ rfl rfl (fun w3 H K hK => ?_) ?_; rotate_left 1; (focus (simp only [List.getElem_toArray, List.getElem_cons_succ, List.getElem_cons_zero]; first | (go_big_op; first | exact hK _ (Ext.refl _) | (go_at_call 69; (with_reducible refine (h1 _).mono ?_); rintro e w3 ⟨rfl, hb⟩; dsimp only; first | exact hK _ hb | exact hK _ (Ext.refl _)) | (go_at_call 70; (with_reducible refine (t2 _).mono ?_); rintro e w3 ⟨rfl, hb⟩; dsimp only; first | exact hK _ hb | exact hK _ (Ext.refl _)) | (go_at_call 70; (with_reducible refine (t3 _).mono ?_); rintro e w3 ⟨rfl, hb⟩; dsimp only; first | exact hK _ hb | exact hK _ (Ext.refl _)) | (go_at_call 70; (with_reducible refine (t4 _).mono ?_); rintro e w3 ⟨rfl, hb⟩; dsimp only; first | exact hK _ hb | exact hK _ (Ext.refl _)) | (go_at_call 66; (with_reducible refine (cmpOr3 H).mono ?_); rintro e w3 ⟨rfl, hb⟩; dsimp only; first | exact hK _ hb | exact hK _ (Ext.refl _))))); simp only [List.getElem_toArray, List.getElem_cons_succ, List.getElem_cons_zero, Act.put, List.setIfInBounds_toArray, List.set_cons_succ, List.set_cons_zero]) | (refine treeC_skip ⟨_, H, by repeat first | exact .here | apply Suf.there⟩ rfl rfl ?_; simp only [List.getElem_toArray, List.getElem_cons_succ, List.getElem_cons_zero, Act.put, List.setIfInBounds_toArray, List.set_cons_succ, List.set_cons_zero])) | (guard_target =~ wpTreeC _ _ _ (Tr.both _ _) _ _ _; refine treeC_both ?_ ?_) | (guard_target =~ wpTreeC _ _ _ (Tr.e _ _) _ _ _; first | (refine treeC_one H rfl rfl (fun w3 H2 K hK => ?_); clear H; (try clear w2); (revert w3; intro w2 H); simp only [List.getElem_toArray, List.getElem_cons_succ, List.getElem_cons_zero]; first | (((guard_target =~ Oper.wp _ (Oper.mk _ (.buildSlice _ _ _) _ _ _ _) _ _ _ _; refine o_buildSlice (C := ?_) (E := ?_) rfl rfl H ?_ rfl (fun w3 b2 he H2 => hK _ _ ⟨_, H2, ?_⟩ ?_); rotate_left 2; (focus (intro _; simp [go_sem, Instr.buildSlice]; with_reducible exact rfl))); (guard_target =~ Suf _ _; repeat first | exact .here | apply Suf.there); clear hK K he; clear H; (try clear w2); revert w3; intro w2 H; simp [Act.eval, Value.cells, setL, List.getD] at H; (skip)); simp only [Act.put, List.setIfInBounds_toArray, List.set_cons_succ, List.set_cons_zero]) | (go_big_op; (skip))) | (refine treeC_one_skip (fun w3 hx => ⟨_, H.ext hx, by repeat first | exact .here | apply Suf.there⟩) rfl rfl (fun w3 hx => ?_); replace H := H.ext hx; clear hx; (try clear w2); revert w3; intro w2 H; simp only [List.getElem_toArray, List.getElem_cons_succ, List.getElem_cons_zero, Act.put, List.setIfInBounds_toArray, List.set_cons_succ, List.set_cons_zero])) | (guard_target =~ wpTreeC _ _ _ Tr.nil _ _ _; refine treeC_nil H (fun w3 H2 => ?_); clear H; (try clear w2); revert w3; intro w2 H)))
    go_ret
    exact ⟨by rw [HZ.out]; rfl, H.below⟩
  · go_enter Try.func94, Try.ntmps94
    have tk0 : True := trivial
    have tk1 : True := trivial
    go_wp2_with (first
      | (go_at_call 69; (with_reducible refine (h1 _).mono ?_); rintro e w3 ⟨rfl, hb⟩; replace H := H.ext hb; clear hb; dsimp only; (skip))
      | (go_at_call 66; (with_reducible refine (cmpOr2 H).mono ?_); rintro e w3 ⟨rfl, hb⟩; replace H := H.ext hb; clear hb; dsimp only; (refine hK _ _ ⟨_, H, by repeat first | exact .here | apply Suf.there⟩ ?_; clear hK K; (try simp only [Act.put, List.setIfInBounds_toArray, List.set_cons_succ, List.set_cons_zero])))
      | (guard_target =~ Code.wp _ (Code.region 2 _ true) _ _ _; refine region_treeC0 2 (G := True) (.q 0 (.q 1 (.q 2 (.q 3 (.q 4 (.q 5 (.q 6 (.q 7 (.q 8 (.q 9 (.q 10 (.q 11 (.q 12 (.q 13 (.e 14 (.e 15 (.q 16 .nil))))))))))))))))) (by kernel_rfl) (by intro c a d v w h; cases d <;> first | exact h | exact hQ h) (by kernel_rfl) H ⟨trivial⟩ (fun _ w3 H2 => ?_); (clear H; (try clear w2); revert w3; intro w2 H))
      | (guard_target =~ wpList _ _ _ (_ :: _) _ _; (first | (guard_target =~ wpList _ _ _ (Oper.mk _ (.load _ _) _ _ _ _ :: _) _ _; refine BigFrame.wpList_want rfl (fun K hK => ?_); (refine o_loadSa (t0 := ?_) (t1 := ?_) (t2 := ?_) (t3 := ?_) rfl rfl H ?_ ?_ ?_ (hK _ _ ?_); rotate_left 4; (repeat first | exact .head _ | apply List.Mem.tail); (focus (intro _; simp; done)); (focus (intro _; simp; done))); clear hK K) | ((guard_target =~ wpList _ _ _ (Oper.mk _ (.box _ _) _ _ _ _ :: _) _ _; refine BigFrame.wpList_want rfl (fun K hK => ?_); refine o_box rfl H rfl (fun w3 b2 he H2 => hK _ _ ?_)); clear hK K he; clear H; (try clear w2); revert w3; intro w2 H; simp [Act.eval, Value.cells, setL, List.getD] at H; (first | (clear tk0; rename Nat => b1) | (clear tk1; rename Nat => b2)))); simp only [Act.put, List.setIfInBounds_toArray, List.set_cons_succ, List.set_cons_zero])
      | (guard_target =~ wpTreeC _ _ _ _ _ _ _; first | (guard_target =~ wpTreeC _ _ _ (Tr.e _ Tr.nil) _ _ _; refine treeC_last (by decide +kernel) H rfl rfl (fun w3 H2 K hK => ?_); clear H; (try clear w2); (revert w3; intro w2 H); simp only [List.getElem_toArray, List.getElem_cons_succ, List.getElem_cons_zero]; (first | fail); simp only [Act.put, List.setIfInBounds_toArray, List.set_cons_succ, List.set_cons_zero]) | (guard_target =~ wpTreeC _ _ _ (Tr.q _ _) _ _ _; first | (refine treeC_quiet ⟨_, H, by repeat first | exact .here | apply Suf.there⟩ rfl rfl rfl (fun K hK => ?_); simp only [List.getElem_toArray, List.getElem_cons_succ, List.getElem_cons_zero]; first | (guard_target =~ Oper.quiet _ (Oper.mk _ (.load _ _) _ _ _ _) _ _ _; (first | (refine q_loadSa (t0 := ?_) (t1 := ?_) (t2 := ?_) (t3 := ?_) rfl rfl ?_ ?_ ?_ (hK _ ?_); rotate_left 4; (repeat first | exact .head _ | apply List.Mem.tail); (focus (intro _; simp; done)); (focus (intro _; simp; done))) | (refine q_loadSb (t0 := ?_) (t1 := ?_) (t2 := ?_) (t3 := ?_) rfl rfl ?_ ?_ ?_ (hK _ ?_); rotate_left 4; (repeat first | exact .head _ | apply List.Mem.tail); (focus (intro _; simp; done)); (focus (intro _; simp; done)))); clear hK K; simp only [Act.put, List.setIfInBounds_toArray, List.set_cons_succ, List.set_cons_zero]) | (go_big_quiet_op; (try refine ⟨_, fun _ _ => rfl, ?_⟩); refine hK _ ?_; clear hK K)) | (refine treeC_call (v := ?_) ⟨_, H, by repeat first | exact .here | apply Suf.there⟩ rfl rfl (fun w3 H K hK => ?_) ?_; rotate_left 1; (focus (simp only [List.getElem_toArray, List.getElem_cons_succ, List.getElem_cons_zero]; first | (go_big_op; first | exact hK _ (Ext.refl _) | (go_at_call 69; (with_reducible refine (h1 _).mono ?_); rintro e w3 ⟨rfl, hb⟩; dsimp only; first | exact hK _ hb | exact hK _ (Ext.refl _)) | (go_at_call 70; (with_reducible refine (t1 _).mono ?_); rintro e w3 ⟨rfl, hb⟩; dsimp only; first | exact hK _ hb | exact hK _ (Ext.refl _)) | (go_at_call 70; (with_reducible refine (t2 _).mono ?_); rintro e w3 ⟨rfl, hb⟩; dsimp only; first | exact hK _ hb | exact hK _ (Ext.refl _)) | (go_at_call 66; (with_reducible refine (cmpOr2 H).mono ?_); rintro e w3 ⟨rfl, hb⟩; dsimp only; first | exact hK _ hb | exact hK _ (Ext.refl _))))); simp only [List.getElem_toArray, List.getElem_cons_succ, List.getElem_cons_zero, Act.put, List.setIfInBounds_toArray, List.set_cons_succ, List.set_cons_zero]) | (refine treeC_skip ⟨_, H, by repeat first | exact .here | apply Suf.there⟩ rfl rfl ?_; simp only [List.getElem_toArray, List.getElem_cons_succ, List.getElem_cons_zero, Act.put, List.setIfInBounds_toArray, List.set_cons_succ, List.set_cons_zero])) | (guard_target =~ wpTreeC _ _ _ (Tr.both _ _) _ _ _; refine treeC_both ?_ ?_) | (guard_target =~ wpTreeC _ _ _ (Tr.e _ _) _ _ _; first | (refine treeC_one H rfl rfl (fun w3 H2 K hK => ?_); clear H; (try clear w2); (revert w3; intro w2 H); simp only [List.getElem_toArray, List.getElem_cons_succ, List.getElem_cons_zero]; first | (((guard_target =~ Oper.wp _ (Oper.mk _ (.buildSlice _ _ _) _ _ _ _) _ _ _ _; refine o_buildSlice (C := ?_) (E := ?_) rfl rfl H ?_ rfl (fun w3 b2 he H2 => hK _ _ ⟨_, H2, ?_⟩ ?_); rotate_left 2; (focus (intro _; simp [go_sem, Instr.buildSlice]; with_reducible exact rfl))); (guard_target =~ Suf _ _; repeat first | exact .here | apply Suf.there); clear hK K he; clear H; (try clear w2); revert w3; intro w2 H; simp [Act.eval, Value.cells, setL, List.getD] at H; (skip)); simp only [Act.put, List.setIfInBounds_toArray, List.set_cons_succ, List.set_cons_zero]) | (go_big_op; (skip))) | (refine treeC_one_skip (fun w3 hx => ⟨_, H.ext hx, by repeat first | exact .here | apply Suf.there⟩) rfl rfl (fun w3 hx => ?_); replace H := H.ext hx; clear hx; (try clear w2); revert w3; intro w2 H; simp only [List.getElem_toArray, List.getElem_cons_succ, List.getElem_cons_zero, Act.put, List.setIfInBounds_toArray, List.set_cons_succ, List.set_cons_zero])) | (guard_target =~ wpTreeC _ _ _ Tr.nil _ _ _; refine treeC_nil H (fun w3 H2 => ?_); clear H; (try clear w2); revert w3; intro w2 H)))
    go_ret
    exact ⟨by rw [HZ.out]; rfl, H.below⟩

/-! ### An edge's line -/
def segZ (vs : List Vt) (x y : Int) : Sg := if lessB (rpt vs y) (rpt vs x) = true then ⟨rpt vs y, rpt vs x⟩ else ⟨rpt vs x, rpt vs y⟩
theorem vt_some {vs : List Vt} {id : Int} (h : (vs.find? fun v => v.id == id).isSome = true) : ∃ i x y, (vs.find? fun v => v.id == id) = some ⟨i, ⟨x, y⟩⟩ ∧ rpt vs id = ⟨x, y⟩ := by
  obtain ⟨⟨i, ⟨x, y⟩⟩, hv⟩ := Option.isSome_iff_exists.1 h
  exact ⟨i, x, y, hv, rpt_some hv⟩
set_option maxRecDepth 100000 in
set_option maxHeartbeats 8000000 in
theorem segOf_any (vs : List Vt) (A A2 : Option Addr) (n m : Nat) (c c2 : Nat) (F : Nat → Prop) (i x y : Int) (w : World) (hn : n = vs.length) (hs : Sl F w A (vR vs)) (hl : n ≤ 1000000) (hx : (vs.find? fun v => v.id == x).isSome = true) (hy : (vs.find? fun v => v.id == y).isSome = true) :
    Calls Try.prog 63 #[.agg #[.slice A n c, .slice A2 m c2], v3 i x y] w fun e w' => e = .returned (sgV (segZ vs x y)) ∧ Below w.heap.size w w' := by
  obtain ⟨b0, o0, H, f0⟩ := (Own.start w).addSl (hs.ro (by rfl))
  clear hs
  have h1 := fun F w h => vertex_any vs A A2 n m c c2 F x w hn h hl
  have h2 := fun F w h => vertex_any vs A A2 n m c c2 F y w hn h hl
  obtain ⟨i1, ax, ay, e1, r1⟩ := vt_some hx
  obtain ⟨i2, bx, b_y, e2, r2⟩ := vt_some hy
  have hz : segZ vs x y = if lessB ⟨bx, b_y⟩ ⟨ax, ay⟩ = true then ⟨⟨bx, b_y⟩, ⟨ax, ay⟩⟩ else ⟨⟨ax, ay⟩, ⟨bx, b_y⟩⟩ := by unfold segZ; rw [r1, r2]
  rw [e1] at h1
  rw [e2] at h2
  simp only [vtV, Option.isSome_some] at h1 h2
  have h3 := fun w => geomLess_any bx b_y ax ay w
  rw [hz]
  clear hx hy hn hz e1 e2 r1 r2
  generalize lessB ⟨bx, b_y⟩ ⟨ax, ay⟩ = v at h3 ⊢
  cases v
  · simp only [Bool.false_eq_true, if_false]
    go_enter Try.func63, Try.ntmps63
    have tk0 : True := trivial
    have tk1 : True := trivial
    have tk2 : True := trivial
    have tk3 : True := trivial
    have tk4 : True := trivial
    go_wp2_with (first
      | (go_at_call 60; (with_reducible refine (h1 _ _ (by first | exact H.giveRd m3 f0 | exact H.giveRd m4 f0)).mono ?_); rintro e w3 ⟨rfl, hb⟩; replace H := H.ext hb; clear hb; dsimp only)
      | (go_at_call 60; (with_reducible refine (h2 _ _ (by exact H.giveRd m4 f0)).mono ?_); rintro e w3 ⟨rfl, hb⟩; replace H := H.ext hb; clear hb; dsimp only)
      | (go_at_call 69; (with_reducible refine (h3 _).mono ?_); rintro e w3 ⟨rfl, hb⟩; replace H := H.ext hb; clear hb; dsimp only)
      | (guard_target =~ wpList _ _ _ (_ :: _) _ _; (first | (guard_target =~ wpList _ _ _ (Oper.mk _ (.load _ _) _ _ _ _ :: _) _ _; refine BigFrame.wpList_want rfl (fun K hK => ?_); (first | (refine o_loadPt (n := ?_) (d := ?_) rfl rfl H ?_ ?_ ?_ (hK _ _ ?_); rotate_left 2; (repeat first | exact .head _ | apply List.Mem.tail); (focus (intro _; simp; done)); (focus (intro _; simp; done))) | (refine o_loadC (v := ?_) (row := ?_) rfl rfl H ?_ ?_ ?_ (hK _ _ ?_); rotate_left 2; (repeat first | exact .head _ | apply List.Mem.tail); (exact rfl); (focus (intro _; simp; done))) | (refine o_loadNC (row := ?_) rfl rfl H ?_ ?_ ?_ (hK _ _ ?_); rotate_left 1; (repeat first | exact .head _ | apply List.Mem.tail); (focus (intro _; simp; done)); (focus (intro _; simp; done)))); clear hK K) | (guard_target =~ wpList _ _ _ (Oper.mk _ (.store _ _ _) _ _ _ _ :: _) _ _; refine BigFrame.wpList_want rfl (fun K hK => ?_); refine o_store (l' := ?_) (row := ?_) rfl rfl H rfl ?_ ?_ ?_ ?_ (fun w3 H2 => hK _ _ ?_); rotate_left 2; (first | exact r0 | exact r2); (focus (intro _; simp [Act.eval, Value.cells]; done)); (focus (simp [Act.eval, Value.cells]; done)); (exact rfl); clear hK K; clear H; (try clear w2); revert w3; intro w2 H; simp [Act.eval, Value.cells, setL, List.getD] at H) | ((first | (guard_target =~ wpList _ _ _ (Oper.mk _ (.alloc _) _ _ _ _ :: _) _ _; refine BigFrame.wpList_want rfl (fun K hK => ?_); refine o_alloc (z := ?_) rfl ?_ H rfl (fun w3 b2 he H2 => hK _ _ ?_); rotate_left 1; (focus (intro _; simp; with_reducible exact rfl))) | (guard_target =~ wpList _ _ _ (Oper.mk _ (.box _ _) _ _ _ _ :: _) _ _; refine BigFrame.wpList_want rfl (fun K hK => ?_); refine o_box rfl H rfl (fun w3 b2 he H2 => hK _ _ ?_))); clear hK K he; clear H; (try clear w2); revert w3; intro w2 H; simp [Act.eval, Value.cells, setL, List.getD] at H; (first | (clear tk0; rename Nat => b1) | (clear tk1; rename Nat => b2) | (clear tk2; rename Nat => b3) | (clear tk3; rename Nat => b4) | (clear tk4; rename Nat => b5)))); simp only [Act.put, List.setIfInBounds_toArray, List.set_cons_succ, List.set_cons_zero]))
    have hr := H.loadVarN (P := Try.prog) (ty := 111) (b := b3) (by exact m2) (by simp) (by simp)
    exact bodyPost_ret (v := sgV ⟨⟨ax, ay⟩, ⟨bx, b_y⟩⟩) (by simp [results, Try.results63, asAddr, hr]) rfl ⟨rfl, H.below⟩
  · simp only [if_true]
    go_enter Try.func63, Try.ntmps63
    have tk0 : True := trivial
    have tk1 : True := trivial
    have tk2 : True := trivial
    have tk3 : True := trivial
    have tk4 : True := trivial
    go_wp2_with (first
      | (go_at_call 60; (with_reducible refine (h1 _ _ (by first | exact H.giveRd m3 f0 | exact H.giveRd m4 f0)).mono ?_); rintro e w3 ⟨rfl, hb⟩; replace H := H.ext hb; clear hb; dsimp only)
      | (go_at_call 60; (with_reducible refine (h2 _ _ (by exact H.giveRd m4 f0)).mono ?_); rintro e w3 ⟨rfl, hb⟩; replace H := H.ext hb; clear hb; dsimp only)
      | (go_at_call 69; (with_reducible refine (h3 _).mono ?_); rintro e w3 ⟨rfl, hb⟩; replace H := H.ext hb; clear hb; dsimp only)
      | (guard_target =~ wpList _ _ _ (_ :: _) _ _; (first | (guard_target =~ wpList _ _ _ (Oper.mk _ (.load _ _) _ _ _ _ :: _) _ _; refine BigFrame.wpList_want rfl (fun K hK => ?_); (first | (refine o_loadPt (n := ?_) (d := ?_) rfl rfl H ?_ ?_ ?_ (hK _ _ ?_); rotate_left 2; (repeat first | exact .head _ | apply List.Mem.tail); (focus (intro _; simp; done)); (focus (intro _; simp; done))) | (refine o_loadC (v := ?_) (row := ?_) rfl rfl H ?_ ?_ ?_ (hK _ _ ?_); rotate_left 2; (repeat first | exact .head _ | apply List.Mem.tail); (exact rfl); (focus (intro _; simp; done))) | (refine o_loadNC (row := ?_) rfl rfl H ?_ ?_ ?_ (hK _ _ ?_); rotate_left 1; (repeat first | exact .head _ | apply List.Mem.tail); (focus (intro _; simp; done)); (focus (intro _; simp; done)))); clear hK K) | (guard_target =~ wpList _ _ _ (Oper.mk _ (.store _ _ _) _ _ _ _ :: _) _ _; refine BigFrame.wpList_want rfl (fun K hK => ?_); refine o_store (l' := ?_) (row := ?_) rfl rfl H rfl ?_ ?_ ?_ ?_ (fun w3 H2 => hK _ _ ?_); rotate_left 2; (first | exact r0 | exact r1 | exact r2); (focus (intro _; simp [Act.eval, Value.cells]; done)); (focus (simp [Act.eval, Value.cells]; done)); (exact rfl); clear hK K; clear H; (try clear w2); revert w3; intro w2 H; simp [Act.eval, Value.cells, setL, List.getD] at H) | ((first | (guard_target =~ wpList _ _ _ (Oper.mk _ (.alloc _) _ _ _ _ :: _) _ _; refine BigFrame.wpList_want rfl (fun K hK => ?_); refine o_alloc (z := ?_) rfl ?_ H rfl (fun w3 b2 he H2 => hK _ _ ?_); rotate_left 1; (focus (intro _; simp; with_reducible exact rfl))) | (guard_target =~ wpList _ _ _ (Oper.mk _ (.box _ _) _ _ _ _ :: _) _ _; refine BigFrame.wpList_want rfl (fun K hK => ?_); refine o_box rfl H rfl (fun w3 b2 he H2 => hK _ _ ?_))); clear hK K he; clear H; (try clear w2); revert w3; intro w2 H; simp [Act.eval, Value.cells, setL, List.getD] at H; (first | (clear tk0; rename Nat => b1) | (clear tk1; rename Nat => b2) | (clear tk2; rename Nat => b3) | (clear tk3; rename Nat => b4) | (clear tk4; rename Nat => b5)))); simp only [Act.put, List.setIfInBounds_toArray, List.set_cons_succ, List.set_cons_zero]))
    have hr := H.loadVarN (P := Try.prog) (ty := 111) (b := b3) (by exact m2) (by simp) (by simp)
    exact bodyPost_ret (v := sgV ⟨⟨bx, b_y⟩, ⟨ax, ay⟩⟩) (by simp [results, Try.results63, asAddr, hr]) rfl ⟨rfl, H.below⟩
end Go.Proofs.Ytlhmjhildlnokaa
