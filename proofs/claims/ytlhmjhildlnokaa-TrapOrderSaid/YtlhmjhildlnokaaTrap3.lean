/-
  The walk of trap.crossed.
-/
import Derived.Test.YtlhmjhildlnokaaTrap2
import Derived.Deep.DeepCutAuto
namespace Go.Proofs.Ytlhmjhildlnokaa
set_option linter.unusedVariables false
set_option linter.unusedSimpArgs false
open Go.RowKit Go.Sort Go.Shelf

def sgOf (S : List (Int × Sg)) (id : Int) : Sg := (getA S id).getD zSg
/-- Does a line go through a trapeze? -/
def hitB (S : List (Int × Sg)) (s : Sg) (p : Pc) : Bool :=
  !p.g && (!(p.t.hl && !lessB p.t.l s.b) && (!(p.t.hr && !lessB s.a p.t.r) && (!((p.t.bot != 0) && decide (sideZ (sgOf S p.t.bot) s < 0)) && !((p.t.top != 0) && decide (sideZ (sgOf S p.t.top) s > 0)))))
def hitAt (P : List Pc) (S : List (Int × Sg)) (s : Sg) (i : Nat) : Bool := match P[i]? with | some p => hitB S s p | none => false
def crossL (P : List Pc) (S : List (Int × Sg)) (s : Sg) (j : Nat) : List Nat := (List.range j).filter (hitAt P S s)
theorem crossL_step {P : List Pc} {S : List (Int × Sg)} {s : Sg} {j : Nat} {p : Pc} (h : P[j]? = some p) : crossL P S s (j + 1) = if hitB S s p = true then crossL P S s j ++ [j] else crossL P S s j := by
  have e : hitAt P S s j = hitB S s p := by unfold hitAt; rw [h]
  unfold crossL
  rw [List.range_succ, List.filter_append]
  cases hb : hitB S s p <;> simp [e, hb]
theorem crossL_lt {P : List Pc} {S : List (Int × Sg)} {s : Sg} {j i : Nat} (h : i ∈ crossL P S s j) : i < j := by
  have := (List.mem_filter.1 h).1
  simpa using this
theorem crossL_len (P : List Pc) (S : List (Int × Sg)) (s : Sg) (j : Nat) : (crossL P S s j).length ≤ j := by
  have := List.length_filter_le (hitAt P S s) (List.range j)
  rwa [List.length_range] at this
theorem nR1_app (l m : List Nat) : nR1 (l ++ m) = nR1 l ++ nR1 m := by simp [nR1]
/-- What crossed answers: those that are crossed, sorted by what is at their left. -/
def CrossP (P : List Pc) (S : List (Int × Sg)) (s : Sg) (all : List Nat) : Prop := all.Perm (crossL P S s P.length) ∧ SortC P all
theorem p_grow {P : List Pc} {j n b c : Nat} {p : Pc} (h : P[j]? = some p) : (Res.grow 121 10 (.slice (some ⟨b, 0, none⟩) n c) n (pR P)).at b (j * 10) (pc10 p) := at_grow (flatN_at (f := pc10) (k := 10) (fun _ => rfl) P j _ h)
section
variable {Pg : Program} {o : Oper} {a : Act} {w w0 : World} {B : Nat} {l : List Res} {Q : Exit → Act → World → Prop} {ty : TypeId} {x y : Operand} {b : Nat} {t0 t1 t2 t3 t4 t5 t6 t7 t8 t9 : Value}
theorem q_loadPl {lf : List Res} {K : Act → Prop} (ho : o.op = .load ty x) (hx : a.eval x = .pointer (some ⟨b, 4, none⟩)) (hm : Res.cells b [t0, t1, t2, t3, t4, t5, t6, t7, t8, t9] ∈ lf)
    (ha : ∀ w, (isAgg ty).run Pg w = .ok true w) (hs : ∀ w, (sizeOf ty).run Pg w = .ok 2 w) (hk : K (a.put o.dst (.agg #[t4, t5]))) : o.quiet Pg a (Keeps B w0 lf) K := q_loadN (r := .cells b [t0, t1, t2, t3, t4, t5, t6, t7, t8, t9]) (cs := [t4, t5]) ho hx ⟨rfl, rfl⟩ hm ha hs hk
theorem o_loadPl {K : Act → World → Prop} (ho : o.op = .load ty x) (hx : a.eval x = .pointer (some ⟨b, 4, none⟩)) (H : Own B w0 w l) (hm : Res.cells b [t0, t1, t2, t3, t4, t5, t6, t7, t8, t9] ∈ l)
    (ha : ∀ w, (isAgg ty).run Pg w = .ok true w) (hs : ∀ w, (sizeOf ty).run Pg w = .ok 2 w) (hk : K (a.put o.dst (.agg #[t4, t5])) w) : o.wp Pg a w K Q := o_loadN (r := .cells b [t0, t1, t2, t3, t4, t5, t6, t7, t8, t9]) (cs := [t4, t5]) ho hx H ⟨rfl, rfl⟩ hm ha hs hk
theorem q_loadPr {lf : List Res} {K : Act → Prop} (ho : o.op = .load ty x) (hx : a.eval x = .pointer (some ⟨b, 6, none⟩)) (hm : Res.cells b [t0, t1, t2, t3, t4, t5, t6, t7, t8, t9] ∈ lf)
    (ha : ∀ w, (isAgg ty).run Pg w = .ok true w) (hs : ∀ w, (sizeOf ty).run Pg w = .ok 2 w) (hk : K (a.put o.dst (.agg #[t6, t7]))) : o.quiet Pg a (Keeps B w0 lf) K := q_loadN (r := .cells b [t0, t1, t2, t3, t4, t5, t6, t7, t8, t9]) (cs := [t6, t7]) ho hx ⟨rfl, rfl⟩ hm ha hs hk
theorem o_loadPr {K : Act → World → Prop} (ho : o.op = .load ty x) (hx : a.eval x = .pointer (some ⟨b, 6, none⟩)) (H : Own B w0 w l) (hm : Res.cells b [t0, t1, t2, t3, t4, t5, t6, t7, t8, t9] ∈ l)
    (ha : ∀ w, (isAgg ty).run Pg w = .ok true w) (hs : ∀ w, (sizeOf ty).run Pg w = .ok 2 w) (hk : K (a.put o.dst (.agg #[t6, t7])) w) : o.wp Pg a w K Q := o_loadN (r := .cells b [t0, t1, t2, t3, t4, t5, t6, t7, t8, t9]) (cs := [t6, t7]) ho hx H ⟨rfl, rfl⟩ hm ha hs hk
end
theorem nR1_one (j : Nat) : nR1 [j] = [.int .i64 (j : Int)] := rfl
set_option maxRecDepth 100000 in
set_option maxHeartbeats 16000000 in
theorem tcrossed_any {B : Nat} {w0 w : World} {l : List Res} {bx bp ks ke n m cn cp : Nat} {An : Option Addr} {N : List Nd} {P : List Pc} {S : List (Int × Sg)} (s : Sg) (hm : m = P.length) (hmp : 0 < m) (hml : m ≤ 1000000)
    (H : Own B w0 w (.cells bx [.slice An n cn, .slice (some ⟨bp, 0, none⟩) m cp, .map (some ks), .map (some ke)] :: .grow 127 6 (.slice An n cn) n (nR N) :: .grow 121 10 (.slice (some ⟨bp, 0, none⟩) m cp) m (pR P) :: mSeg ks S :: l)) :
    Calls Try.prog 81 #[.pointer (some ⟨bx, 0, none⟩), sgV s] w fun e w' => ∃ A k c all, e = .returned (.slice A k c) ∧ CrossP P S s all ∧ k = all.length ∧
      Own B w0 w' (.grow 3 1 (.slice A k c) k (nR1 all) :: .cells bx [.slice An n cn, .slice (some ⟨bp, 0, none⟩) m cp, .map (some ks), .map (some ke)] :: .grow 127 6 (.slice An n cn) n (nR N) :: .grow 121 10 (.slice (some ⟨bp, 0, none⟩) m cp) m (pR P) :: mSeg ks S :: l) := by
  obtain ⟨⟨ax, ay⟩, ⟨bx', by'⟩⟩ := s
  simp only [sgV]
  have HM := Lib.hid hm
  clear hm
  go_enter Try.func81, Try.ntmps81
  have tk0 : True := trivial
  have tk1 : True := trivial
  go_wp2_with (guard_target =~ wpList _ _ _ (_ :: _) _ _; (first | (guard_target =~ wpList _ _ _ (Oper.mk _ (.load _ _) _ _ _ _ :: _) _ _; refine BigFrame.wpList_want rfl (fun K hK => ?_); (refine o_loadC (v := ?_) (row := ?_) rfl rfl H ?_ ?_ ?_ (hK _ _ ?_); rotate_left 2; (repeat first | exact .head _ | apply List.Mem.tail); (exact rfl); (focus (intro _; simp; done))); clear hK K) | ((guard_target =~ wpList _ _ _ (Oper.mk _ (.box _ _) _ _ _ _ :: _) _ _; refine BigFrame.wpList_want rfl (fun K hK => ?_); refine o_box rfl H rfl (fun w3 b2 he H2 => hK _ _ ?_)); clear hK K he; clear H; (try clear w2); revert w3; intro w2 H; simp [Act.eval, Value.cells, setL, List.getD] at H; (first | (clear tk0; rename Nat => b1) | (clear tk1; rename Nat => b2)))); simp only [Act.put, List.setIfInBounds_toArray, List.set_cons_succ, List.set_cons_zero])
  have H := H.grow_nil 3 1
  go_loopg [13, 5] m (fun k i v wr => k ≤ m ∧ i = .int .i64 ((m - k : Nat) : Int) ∧ ∃ q, q = (crossL P S ⟨⟨ax, ay⟩, ⟨bx', by'⟩⟩ (m - k)).length ∧ Own B w0 wr (.grow 3 1 v q (nR1 (crossL P S ⟨⟨ax, ay⟩, ⟨bx', by'⟩⟩ (m - k))) :: .cells b2 [.int .i64 ax, .int .i64 ay, .int .i64 bx', .int .i64 by'] :: .cells b1 [.pointer (some ⟨bx, 0, none⟩)] :: .cells bx [.slice An n cn, .slice (some ⟨bp, 0, none⟩) m cp, .map (some ks), .map (some ke)] :: .grow 127 6 (.slice An n cn) n (nR N) :: .grow 121 10 (.slice (some ⟨bp, 0, none⟩) m cp) m (pR P) :: mSeg ks S :: l))
  case atStart => exact ⟨Nat.le_refl _, by simp, 0, by rw [Nat.sub_self]; rfl, by rw [Nat.sub_self]; exact H⟩
  case round =>
    clear H
    obtain ⟨hk, rfl, q, hq, H⟩ := hrel
    by_cases hlt : 0 < gk
    · obtain ⟨j, hj⟩ : ∃ j, m - gk = j := ⟨_, rfl⟩
      have hjl : j < m := by omega
      rw [hj] at H hq ⊢
      obtain ⟨p, he⟩ : ∃ p, P[j]? = some p := ⟨_, List.getElem?_eq_getElem (by have := HM.out; omega)⟩
      obtain ⟨⟨tp, bt, hl, hr, ⟨lx, ly⟩, ⟨rx, ry⟩⟩, nd, gn⟩ := p
      have hp := p_grow (n := m) (b := bp) (c := cp) he
      simp only [pc10] at hp
      have hst := crossL_step (S := S) (s := ⟨⟨ax, ay⟩, ⟨bx', by'⟩⟩) he
      have hql : q ≤ j := by rw [hq]; exact crossL_len _ _ _ _
      generalize crossL P S ⟨⟨ax, ay⟩, ⟨bx', by'⟩⟩ j = D at H hq hst
      have HST := Lib.hid hst
      have HJ := Lib.hid hj
      have HQ := Lib.hid hq
      clear he hst hj hq
      cases gn
      · obtain ⟨v1, hv1⟩ : ∃ v, lessB ⟨lx, ly⟩ ⟨bx', by'⟩ = v := ⟨_, rfl⟩
        have h1 := fun w => geomLess_any lx ly bx' by' w
        rw [hv1] at h1
        obtain ⟨v2, hv2⟩ : ∃ v, lessB ⟨ax, ay⟩ ⟨rx, ry⟩ = v := ⟨_, rfl⟩
        have h2 := fun w => geomLess_any ax ay rx ry w
        rw [hv2] at h2
        have h3 := fun w => side_any (sgOf S bt) ⟨⟨ax, ay⟩, ⟨bx', by'⟩⟩ w
        have h4 := fun w => side_any (sgOf S tp) ⟨⟨ax, ay⟩, ⟨bx', by'⟩⟩ w
        obtain ⟨s1, hs1⟩ : ∃ s, sgOf S bt = s := ⟨_, rfl⟩
        obtain ⟨s2, hs2⟩ : ∃ s, sgOf S tp = s := ⟨_, rfl⟩
        have hb : hitB S ⟨⟨ax, ay⟩, ⟨bx', by'⟩⟩ ⟨⟨tp, bt, hl, hr, ⟨lx, ly⟩, ⟨rx, ry⟩⟩, nd, false⟩ = (!(hl && !v1) && (!(hr && !v2) && (!((bt != 0) && decide (sideZ s1 ⟨⟨ax, ay⟩, ⟨bx', by'⟩⟩ < 0)) && !((tp != 0) && decide (0 < sideZ s2 ⟨⟨ax, ay⟩, ⟨bx', by'⟩⟩))))) := by
          unfold hitB; simp only [hv1, hv2, hs1, hs2]; rfl
        rw [hs1] at h3
        rw [hs2] at h4
        have g1 : (getA S bt).getD zSg = s1 := hs1
        have g2 : (getA S tp).getD zSg = s2 := hs2
        have HB := Lib.hid hb
        clear hb hv1 hv2 hs1 hs2
        have tk0 : True := trivial
        go_upto_region 6 with (guard_target =~ wpList _ _ _ (_ :: _) _ _; (first | (guard_target =~ wpList _ _ _ (Oper.mk _ (.load _ _) _ _ _ _ :: _) _ _; refine BigFrame.wpList_want rfl (fun K hK => ?_); (first | (refine o_loadC (v := ?_) (row := ?_) rfl rfl H ?_ ?_ ?_ (hK _ _ ?_); rotate_left 2; (repeat first | exact .head _ | apply List.Mem.tail); (exact rfl); (focus (intro _; simp; done))) | (refine o_loadN (cs := ?_) (r := ?_) rfl rfl H ?_ ?_ ?_ ?_ (hK _ _ ?_); rotate_left 2; (with_reducible assumption); (repeat first | exact .head _ | apply List.Mem.tail); (focus (intro _; simp; done)); (focus (intro _; simp; done)))); clear hK K) | (guard_target =~ wpList _ _ _ (Oper.mk _ (.store _ _ _) _ _ _ _ :: _) _ _; refine BigFrame.wpList_want rfl (fun K hK => ?_); refine o_store (l' := ?_) (row := ?_) rfl rfl H rfl ?_ ?_ ?_ ?_ (fun w3 H2 => hK _ _ ?_); rotate_left 2; (exact r0); (focus (intro _; simp [Act.eval, Value.cells]; done)); (focus (simp [Act.eval, Value.cells]; done)); (exact rfl); clear hK K; clear H; (try clear w2); revert w3; intro w2 H; simp [Act.eval, Value.cells, setL, List.getD] at H) | ((guard_target =~ wpList _ _ _ (Oper.mk _ (.alloc _) _ _ _ _ :: _) _ _; refine BigFrame.wpList_want rfl (fun K hK => ?_); refine o_alloc (z := ?_) rfl ?_ H rfl (fun w3 b2 he H2 => hK _ _ ?_); rotate_left 1; (focus (intro _; simp; with_reducible exact rfl))); clear hK K he; clear H; (try clear w2); revert w3; intro w2 H; simp [Act.eval, Value.cells, setL, List.getD] at H; (clear tk0; rename Nat => b4))); simp only [Act.put, List.setIfInBounds_toArray, List.set_cons_succ, List.set_cons_zero])
        go_cut [18] (fun v wx => v = .bool (hl && !v1) ∧ Own B w0 wx (.cells b4 [.int .i64 tp, .int .i64 bt, .bool hl, .bool hr, .int .i64 lx, .int .i64 ly, .int .i64 rx, .int .i64 ry, .int .i64 nd, .bool false] :: .grow 3 1 u5 q (nR1 D) :: .cells b2 [.int .i64 ax, .int .i64 ay, .int .i64 bx', .int .i64 by'] :: .cells b1 [.pointer (some ⟨bx, 0, none⟩)] :: .cells bx [.slice An n cn, .slice (some ⟨bp, 0, none⟩) m cp, .map (some ks), .map (some ke)] :: .grow 127 6 (.slice An n cn) n (nR N) :: .grow 121 10 (.slice (some ⟨bp, 0, none⟩) m cp) m (pR P) :: mSeg ks S :: l))
        case first =>
          cases hl
          · go_wp2_with (first
              | go_big_skip
              | (guard_target =~ wpList _ _ _ (_ :: _) _ _; (guard_target =~ wpList _ _ _ (Oper.mk _ (.load _ _) _ _ _ _ :: _) _ _; refine BigFrame.wpList_want rfl (fun K hK => ?_); (refine o_loadC (v := ?_) (row := ?_) rfl rfl H ?_ ?_ ?_ (hK _ _ ?_); rotate_left 2; (repeat first | exact .head _ | apply List.Mem.tail); (exact rfl); (focus (intro _; simp; done))); clear hK K); simp only [Act.put, List.setIfInBounds_toArray, List.set_cons_succ, List.set_cons_zero]))
            go_meet
            case rel => exact ⟨rfl, H⟩
          · go_wp2_with (first
              | (go_at_call 69; (with_reducible refine (h1 _).mono ?_); rintro e w3 ⟨rfl, hb⟩; replace H := H.ext hb; clear hb; dsimp only)
              | (guard_target =~ wpList _ _ _ (_ :: _) _ _; (guard_target =~ wpList _ _ _ (Oper.mk _ (.load _ _) _ _ _ _ :: _) _ _; refine BigFrame.wpList_want rfl (fun K hK => ?_); (first | (refine o_loadPl (t0 := ?_) (t1 := ?_) (t2 := ?_) (t3 := ?_) (t4 := ?_) (t5 := ?_) (t6 := ?_) (t7 := ?_) (t8 := ?_) (t9 := ?_) rfl rfl H ?_ ?_ ?_ (hK _ _ ?_); rotate_left 10; (repeat first | exact .head _ | apply List.Mem.tail); (focus (intro _; simp; done)); (focus (intro _; simp; done))) | (refine o_loadSb (t0 := ?_) (t1 := ?_) (t2 := ?_) (t3 := ?_) rfl rfl H ?_ ?_ ?_ (hK _ _ ?_); rotate_left 4; (repeat first | exact .head _ | apply List.Mem.tail); (focus (intro _; simp; done)); (focus (intro _; simp; done))) | (refine o_loadC (v := ?_) (row := ?_) rfl rfl H ?_ ?_ ?_ (hK _ _ ?_); rotate_left 2; (repeat first | exact .head _ | apply List.Mem.tail); (exact rfl); (focus (intro _; simp; done)))); clear hK K); simp only [Act.put, List.setIfInBounds_toArray, List.set_cons_succ, List.set_cons_zero]))
            go_meet
            case rel => exact ⟨rfl, H⟩
        case rest =>
          clear H
          obtain ⟨rfl, H⟩ := hcut
          obtain ⟨c1, hc1⟩ : ∃ v, (hl && !v1) = v := ⟨_, rfl⟩
          rw [hc1]
          have HC1 := Lib.hid hc1
          clear hc1
          cases c1
          · go_upto_region 7 with (first | fail)
            go_cut [18] (fun v wx => v = .bool (hr && !v2) ∧ Own B w0 wx (.cells b4 [.int .i64 tp, .int .i64 bt, .bool hl, .bool hr, .int .i64 lx, .int .i64 ly, .int .i64 rx, .int .i64 ry, .int .i64 nd, .bool false] :: .grow 3 1 u5 q (nR1 D) :: .cells b2 [.int .i64 ax, .int .i64 ay, .int .i64 bx', .int .i64 by'] :: .cells b1 [.pointer (some ⟨bx, 0, none⟩)] :: .cells bx [.slice An n cn, .slice (some ⟨bp, 0, none⟩) m cp, .map (some ks), .map (some ke)] :: .grow 127 6 (.slice An n cn) n (nR N) :: .grow 121 10 (.slice (some ⟨bp, 0, none⟩) m cp) m (pR P) :: mSeg ks S :: l))
            case first =>
              cases hr
              · go_wp2_with (first
                  | go_big_skip
                  | (guard_target =~ wpList _ _ _ (_ :: _) _ _; (guard_target =~ wpList _ _ _ (Oper.mk _ (.load _ _) _ _ _ _ :: _) _ _; refine BigFrame.wpList_want rfl (fun K hK => ?_); (refine o_loadC (v := ?_) (row := ?_) rfl rfl H ?_ ?_ ?_ (hK _ _ ?_); rotate_left 2; (repeat first | exact .head _ | apply List.Mem.tail); (exact rfl); (focus (intro _; simp; done))); clear hK K); simp only [Act.put, List.setIfInBounds_toArray, List.set_cons_succ, List.set_cons_zero]))
                go_meet
                case rel => exact ⟨rfl, H⟩
              · go_wp2_with (first
                  | (go_at_call 69; (with_reducible refine (h2 _).mono ?_); rintro e w3 ⟨rfl, hb⟩; replace H := H.ext hb; clear hb; dsimp only)
                  | (guard_target =~ wpList _ _ _ (_ :: _) _ _; (guard_target =~ wpList _ _ _ (Oper.mk _ (.load _ _) _ _ _ _ :: _) _ _; refine BigFrame.wpList_want rfl (fun K hK => ?_); (first | (refine o_loadPr (t0 := ?_) (t1 := ?_) (t2 := ?_) (t3 := ?_) (t4 := ?_) (t5 := ?_) (t6 := ?_) (t7 := ?_) (t8 := ?_) (t9 := ?_) rfl rfl H ?_ ?_ ?_ (hK _ _ ?_); rotate_left 10; (repeat first | exact .head _ | apply List.Mem.tail); (focus (intro _; simp; done)); (focus (intro _; simp; done))) | (refine o_loadSa (t0 := ?_) (t1 := ?_) (t2 := ?_) (t3 := ?_) rfl rfl H ?_ ?_ ?_ (hK _ _ ?_); rotate_left 4; (repeat first | exact .head _ | apply List.Mem.tail); (focus (intro _; simp; done)); (focus (intro _; simp; done))) | (refine o_loadC (v := ?_) (row := ?_) rfl rfl H ?_ ?_ ?_ (hK _ _ ?_); rotate_left 2; (repeat first | exact .head _ | apply List.Mem.tail); (exact rfl); (focus (intro _; simp; done)))); clear hK K); simp only [Act.put, List.setIfInBounds_toArray, List.set_cons_succ, List.set_cons_zero]))
                go_meet
                case rel => exact ⟨rfl, H⟩
            case rest =>
              clear H
              obtain ⟨rfl, H⟩ := hcut
              obtain ⟨c2, hc2⟩ : ∃ v, (hr && !v2) = v := ⟨_, rfl⟩
              rw [hc2]
              have HC2 := Lib.hid hc2
              clear hc2
              cases c2
              · go_upto_region 8 with (first | fail)
                go_cut [45] (fun v wx => v = .bool ((bt != 0) && decide (sideZ s1 ⟨⟨ax, ay⟩, ⟨bx', by'⟩⟩ < 0)) ∧ Own B w0 wx (.cells b4 [.int .i64 tp, .int .i64 bt, .bool hl, .bool hr, .int .i64 lx, .int .i64 ly, .int .i64 rx, .int .i64 ry, .int .i64 nd, .bool false] :: .grow 3 1 u5 q (nR1 D) :: .cells b2 [.int .i64 ax, .int .i64 ay, .int .i64 bx', .int .i64 by'] :: .cells b1 [.pointer (some ⟨bx, 0, none⟩)] :: .cells bx [.slice An n cn, .slice (some ⟨bp, 0, none⟩) m cp, .map (some ks), .map (some ke)] :: .grow 127 6 (.slice An n cn) n (nR N) :: .grow 121 10 (.slice (some ⟨bp, 0, none⟩) m cp) m (pR P) :: mSeg ks S :: l))
                case first =>
                  obtain ⟨vz, hvz⟩ : ∃ v, (bt != 0) = v := ⟨_, rfl⟩
                  cases vz
                  · go_wp2_with (first
                      | (guard_target =~ Code.wp _ (Code.region 8 _ true) _ _ _; refine region_treeC0 8 (G := True) (.q 0 (.q 1 (.q 2 (.q 3 (.q 4 (.q 5 (.q 9 (.q 10 (.q 11 (.q 13 (.e 6 (.q 7 (.q 8 (.q 12 (.q 14 (.q 15 (.q 16 (.q 17 .nil)))))))))))))))))) (by kernel_rfl) (by intro c a d v w h; cases d <;> first | exact h | exact hQ h) (by kernel_rfl) H ⟨trivial⟩ (fun _ w3 H2 => ?_); (clear H; (try clear w2); revert w3; intro w2 H))
                      | (guard_target =~ wpTreeC _ _ _ _ _ _ _; first | (guard_target =~ wpTreeC _ _ _ (Tr.e _ Tr.nil) _ _ _; refine treeC_last (by decide +kernel) H rfl rfl (fun w3 H2 K hK => ?_); clear H; (try clear w2); (revert w3; intro w2 H); simp only [List.getElem_toArray, List.getElem_cons_succ, List.getElem_cons_zero]; (first | fail); simp only [Act.put, List.setIfInBounds_toArray, List.set_cons_succ, List.set_cons_zero]) | (guard_target =~ wpTreeC _ _ _ (Tr.q _ _) _ _ _; first | (refine treeC_quiet ⟨_, H, by repeat first | exact .here | apply Suf.there⟩ rfl rfl rfl (fun K hK => ?_); simp only [List.getElem_toArray, List.getElem_cons_succ, List.getElem_cons_zero]; first | (guard_target =~ Oper.quiet _ (Oper.mk _ (.lookup _ _ _ false) _ _ _ _) _ _ _; refine q_segGet (m := ?_) rfl rfl rfl ?_ (hK _ ?_); rotate_left 1; (repeat first | exact .head _ | apply List.Mem.tail); clear hK K; simp only [Act.put, List.setIfInBounds_toArray, List.set_cons_succ, List.set_cons_zero]) | (guard_target =~ Oper.quiet _ (Oper.mk _ (.lookup _ _ _ true) _ _ _ _) _ _ _; refine q_segOk (m := ?_) rfl rfl rfl ?_ (hK _ ?_); rotate_left 1; (repeat first | exact .head _ | apply List.Mem.tail); clear hK K; simp only [Act.put, List.setIfInBounds_toArray, List.set_cons_succ, List.set_cons_zero]) | (guard_target =~ Oper.quiet _ (Oper.mk _ (.load _ _) _ _ _ _) _ _ _; (refine q_loadC (v := ?_) (row := ?_) rfl rfl ?_ ?_ ?_ (hK _ ?_); rotate_left 2; (repeat first | exact .head _ | apply List.Mem.tail); (exact rfl); (focus (intro _; simp; done))); clear hK K; simp only [Act.put, List.setIfInBounds_toArray, List.set_cons_succ, List.set_cons_zero]) | (go_big_quiet_op; (try refine ⟨_, fun _ _ => rfl, ?_⟩); refine hK _ ?_; clear hK K)) | (refine treeC_call (v := ?_) ⟨_, H, by repeat first | exact .here | apply Suf.there⟩ rfl rfl (fun w3 H K hK => ?_) ?_; rotate_left 1; (focus (simp only [List.getElem_toArray, List.getElem_cons_succ, List.getElem_cons_zero]; first | (refine o_segLen (m := ?_) rfl H ?_ ?_; rotate_left 1; (repeat first | exact .head _ | apply List.Mem.tail); exact hK _ (Ext.refl _)) | (go_big_op; first | exact hK _ (Ext.refl _)))); simp only [List.getElem_toArray, List.getElem_cons_succ, List.getElem_cons_zero, Act.put, List.setIfInBounds_toArray, List.set_cons_succ, List.set_cons_zero]) | (refine treeC_skip ⟨_, H, by repeat first | exact .here | apply Suf.there⟩ rfl rfl ?_; simp only [List.getElem_toArray, List.getElem_cons_succ, List.getElem_cons_zero, Act.put, List.setIfInBounds_toArray, List.set_cons_succ, List.set_cons_zero])) | (guard_target =~ wpTreeC _ _ _ (Tr.both _ _) _ _ _; refine treeC_both ?_ ?_) | (guard_target =~ wpTreeC _ _ _ (Tr.e _ _) _ _ _; first | (refine treeC_one H rfl rfl (fun w3 H2 K hK => ?_); clear H; (try clear w2); (revert w3; intro w2 H); simp only [List.getElem_toArray, List.getElem_cons_succ, List.getElem_cons_zero]; first | ((first | fail); simp only [Act.put, List.setIfInBounds_toArray, List.set_cons_succ, List.set_cons_zero]) | (go_big_op; (first | fail))) | (refine treeC_one_skip (fun w3 hx => ⟨_, H.ext hx, by repeat first | exact .here | apply Suf.there⟩) rfl rfl (fun w3 hx => ?_); replace H := H.ext hx; clear hx; (try clear w2); revert w3; intro w2 H; simp only [List.getElem_toArray, List.getElem_cons_succ, List.getElem_cons_zero, Act.put, List.setIfInBounds_toArray, List.set_cons_succ, List.set_cons_zero])) | (guard_target =~ wpTreeC _ _ _ Tr.nil _ _ _; refine treeC_nil H (fun w3 H2 => ?_); clear H; (try clear w2); revert w3; intro w2 H)))
                    go_meet
                    case rel => exact ⟨by rw [hvz]; rfl, H⟩
                  · go_wp2_with (first
                      | (guard_target =~ Code.wp _ (Code.region 8 _ true) _ _ _; refine region_treeC0 8 (G := True) (.q 0 (.q 1 (.q 2 (.q 3 (.q 4 (.q 5 (.q 9 (.q 10 (.q 11 (.q 13 (.e 6 (.q 7 (.q 8 (.q 12 (.q 14 (.q 15 (.q 16 (.q 17 .nil)))))))))))))))))) (by kernel_rfl) (by intro c a d v w h; cases d <;> first | exact h | exact hQ h) (by kernel_rfl) H ⟨trivial⟩ (fun _ w3 H2 => ?_); (clear H; (try clear w2); revert w3; intro w2 H))
                      | (guard_target =~ wpTreeC _ _ _ _ _ _ _; first | (guard_target =~ wpTreeC _ _ _ (Tr.e _ Tr.nil) _ _ _; refine treeC_last (by decide +kernel) H rfl rfl (fun w3 H2 K hK => ?_); clear H; (try clear w2); (revert w3; intro w2 H); simp only [List.getElem_toArray, List.getElem_cons_succ, List.getElem_cons_zero]; (first | fail); simp only [Act.put, List.setIfInBounds_toArray, List.set_cons_succ, List.set_cons_zero]) | (guard_target =~ wpTreeC _ _ _ (Tr.q _ _) _ _ _; first | (refine treeC_quiet ⟨_, H, by repeat first | exact .here | apply Suf.there⟩ rfl rfl rfl (fun K hK => ?_); simp only [List.getElem_toArray, List.getElem_cons_succ, List.getElem_cons_zero]; first | (guard_target =~ Oper.quiet _ (Oper.mk _ (.lookup _ _ _ false) _ _ _ _) _ _ _; refine q_segGet (m := ?_) rfl rfl rfl ?_ (hK _ ?_); rotate_left 1; (repeat first | exact .head _ | apply List.Mem.tail); clear hK K; simp only [Act.put, List.setIfInBounds_toArray, List.set_cons_succ, List.set_cons_zero]) | (guard_target =~ Oper.quiet _ (Oper.mk _ (.lookup _ _ _ true) _ _ _ _) _ _ _; refine q_segOk (m := ?_) rfl rfl rfl ?_ (hK _ ?_); rotate_left 1; (repeat first | exact .head _ | apply List.Mem.tail); clear hK K; simp only [Act.put, List.setIfInBounds_toArray, List.set_cons_succ, List.set_cons_zero]) | (guard_target =~ Oper.quiet _ (Oper.mk _ (.load _ _) _ _ _ _) _ _ _; (first | (refine q_loadC (v := ?_) (row := ?_) rfl rfl ?_ ?_ ?_ (hK _ ?_); rotate_left 2; (repeat first | exact .head _ | apply List.Mem.tail); (exact rfl); (focus (intro _; simp; done))) | (refine q_loadNC (row := ?_) rfl rfl ?_ ?_ ?_ (hK _ ?_); rotate_left 1; (repeat first | exact .head _ | apply List.Mem.tail); (focus (intro _; simp; done)); (focus (intro _; simp; done)))); clear hK K; simp only [Act.put, List.setIfInBounds_toArray, List.set_cons_succ, List.set_cons_zero]) | (go_big_quiet_op; (try refine ⟨_, fun _ _ => rfl, ?_⟩); refine hK _ ?_; clear hK K)) | (refine treeC_call (v := ?_) ⟨_, H, by repeat first | exact .here | apply Suf.there⟩ rfl rfl (fun w3 H K hK => ?_) ?_; rotate_left 1; (focus (simp only [List.getElem_toArray, List.getElem_cons_succ, List.getElem_cons_zero]; first | (refine o_segLen (m := ?_) rfl H ?_ ?_; rotate_left 1; (repeat first | exact .head _ | apply List.Mem.tail); exact hK _ (Ext.refl _)) | (go_big_op; first | exact hK _ (Ext.refl _) | (go_at_call 94; (with_reducible refine (h3 _).mono ?_); rintro e w3 ⟨rfl, hb⟩; dsimp only; first | exact hK _ hb | exact hK _ (Ext.refl _))))); simp only [List.getElem_toArray, List.getElem_cons_succ, List.getElem_cons_zero, Act.put, List.setIfInBounds_toArray, List.set_cons_succ, List.set_cons_zero]) | (refine treeC_skip ⟨_, H, by repeat first | exact .here | apply Suf.there⟩ rfl rfl ?_; simp only [List.getElem_toArray, List.getElem_cons_succ, List.getElem_cons_zero, Act.put, List.setIfInBounds_toArray, List.set_cons_succ, List.set_cons_zero])) | (guard_target =~ wpTreeC _ _ _ (Tr.both _ _) _ _ _; refine treeC_both ?_ ?_) | (guard_target =~ wpTreeC _ _ _ (Tr.e _ _) _ _ _; first | (refine treeC_one H rfl rfl (fun w3 H2 K hK => ?_); clear H; (try clear w2); (revert w3; intro w2 H); simp only [List.getElem_toArray, List.getElem_cons_succ, List.getElem_cons_zero]; first | ((first | fail); simp only [Act.put, List.setIfInBounds_toArray, List.set_cons_succ, List.set_cons_zero]) | (go_big_op; (refine hK _ _ ⟨_, H, by repeat first | exact .here | apply Suf.there⟩ ?_; clear hK K; (try simp only [Act.put, List.setIfInBounds_toArray, List.set_cons_succ, List.set_cons_zero])))) | (refine treeC_one_skip (fun w3 hx => ⟨_, H.ext hx, by repeat first | exact .here | apply Suf.there⟩) rfl rfl (fun w3 hx => ?_); replace H := H.ext hx; clear hx; (try clear w2); revert w3; intro w2 H; simp only [List.getElem_toArray, List.getElem_cons_succ, List.getElem_cons_zero, Act.put, List.setIfInBounds_toArray, List.set_cons_succ, List.set_cons_zero])) | (guard_target =~ wpTreeC _ _ _ Tr.nil _ _ _; refine treeC_nil H (fun w3 H2 => ?_); clear H; (try clear w2); revert w3; intro w2 H)))
                    go_meet
                    case rel => exact ⟨by rw [hvz]; rfl, H⟩
                case rest =>
                  clear H
                  obtain ⟨rfl, H⟩ := hcut
                  obtain ⟨c3, hc3⟩ : ∃ v, ((bt != 0) && decide (sideZ s1 ⟨⟨ax, ay⟩, ⟨bx', by'⟩⟩ < 0)) = v := ⟨_, rfl⟩
                  rw [hc3]
                  have HC3 := Lib.hid hc3
                  clear hc3
                  cases c3
                  · go_upto_region 9 with (first | fail)
                    go_cut [45] (fun v wx => v = .bool ((tp != 0) && decide (0 < sideZ s2 ⟨⟨ax, ay⟩, ⟨bx', by'⟩⟩)) ∧ Own B w0 wx (.cells b4 [.int .i64 tp, .int .i64 bt, .bool hl, .bool hr, .int .i64 lx, .int .i64 ly, .int .i64 rx, .int .i64 ry, .int .i64 nd, .bool false] :: .grow 3 1 u5 q (nR1 D) :: .cells b2 [.int .i64 ax, .int .i64 ay, .int .i64 bx', .int .i64 by'] :: .cells b1 [.pointer (some ⟨bx, 0, none⟩)] :: .cells bx [.slice An n cn, .slice (some ⟨bp, 0, none⟩) m cp, .map (some ks), .map (some ke)] :: .grow 127 6 (.slice An n cn) n (nR N) :: .grow 121 10 (.slice (some ⟨bp, 0, none⟩) m cp) m (pR P) :: mSeg ks S :: l))
                    case first =>
                      obtain ⟨vz, hvz⟩ : ∃ v, (tp != 0) = v := ⟨_, rfl⟩
                      cases vz
                      · go_wp2_with (first
                          | (guard_target =~ Code.wp _ (Code.region 9 _ true) _ _ _; refine region_treeC0 9 (G := True) (.q 0 (.q 1 (.q 2 (.q 3 (.q 4 (.q 5 (.q 9 (.q 10 (.q 11 (.q 13 (.e 6 (.q 7 (.q 8 (.q 12 (.q 14 (.q 15 (.q 16 (.q 17 .nil)))))))))))))))))) (by kernel_rfl) (by intro c a d v w h; cases d <;> first | exact h | exact hQ h) (by kernel_rfl) H ⟨trivial⟩ (fun _ w3 H2 => ?_); (clear H; (try clear w2); revert w3; intro w2 H))
                          | (guard_target =~ wpTreeC _ _ _ _ _ _ _; first | (guard_target =~ wpTreeC _ _ _ (Tr.e _ Tr.nil) _ _ _; refine treeC_last (by decide +kernel) H rfl rfl (fun w3 H2 K hK => ?_); clear H; (try clear w2); (revert w3; intro w2 H); simp only [List.getElem_toArray, List.getElem_cons_succ, List.getElem_cons_zero]; (first | fail); simp only [Act.put, List.setIfInBounds_toArray, List.set_cons_succ, List.set_cons_zero]) | (guard_target =~ wpTreeC _ _ _ (Tr.q _ _) _ _ _; first | (refine treeC_quiet ⟨_, H, by repeat first | exact .here | apply Suf.there⟩ rfl rfl rfl (fun K hK => ?_); simp only [List.getElem_toArray, List.getElem_cons_succ, List.getElem_cons_zero]; first | (guard_target =~ Oper.quiet _ (Oper.mk _ (.lookup _ _ _ false) _ _ _ _) _ _ _; refine q_segGet (m := ?_) rfl rfl rfl ?_ (hK _ ?_); rotate_left 1; (repeat first | exact .head _ | apply List.Mem.tail); clear hK K; simp only [Act.put, List.setIfInBounds_toArray, List.set_cons_succ, List.set_cons_zero]) | (guard_target =~ Oper.quiet _ (Oper.mk _ (.lookup _ _ _ true) _ _ _ _) _ _ _; refine q_segOk (m := ?_) rfl rfl rfl ?_ (hK _ ?_); rotate_left 1; (repeat first | exact .head _ | apply List.Mem.tail); clear hK K; simp only [Act.put, List.setIfInBounds_toArray, List.set_cons_succ, List.set_cons_zero]) | (guard_target =~ Oper.quiet _ (Oper.mk _ (.load _ _) _ _ _ _) _ _ _; (refine q_loadC (v := ?_) (row := ?_) rfl rfl ?_ ?_ ?_ (hK _ ?_); rotate_left 2; (repeat first | exact .head _ | apply List.Mem.tail); (exact rfl); (focus (intro _; simp; done))); clear hK K; simp only [Act.put, List.setIfInBounds_toArray, List.set_cons_succ, List.set_cons_zero]) | (go_big_quiet_op; (try refine ⟨_, fun _ _ => rfl, ?_⟩); refine hK _ ?_; clear hK K)) | (refine treeC_call (v := ?_) ⟨_, H, by repeat first | exact .here | apply Suf.there⟩ rfl rfl (fun w3 H K hK => ?_) ?_; rotate_left 1; (focus (simp only [List.getElem_toArray, List.getElem_cons_succ, List.getElem_cons_zero]; first | (refine o_segLen (m := ?_) rfl H ?_ ?_; rotate_left 1; (repeat first | exact .head _ | apply List.Mem.tail); exact hK _ (Ext.refl _)) | (go_big_op; first | exact hK _ (Ext.refl _)))); simp only [List.getElem_toArray, List.getElem_cons_succ, List.getElem_cons_zero, Act.put, List.setIfInBounds_toArray, List.set_cons_succ, List.set_cons_zero]) | (refine treeC_skip ⟨_, H, by repeat first | exact .here | apply Suf.there⟩ rfl rfl ?_; simp only [List.getElem_toArray, List.getElem_cons_succ, List.getElem_cons_zero, Act.put, List.setIfInBounds_toArray, List.set_cons_succ, List.set_cons_zero])) | (guard_target =~ wpTreeC _ _ _ (Tr.both _ _) _ _ _; refine treeC_both ?_ ?_) | (guard_target =~ wpTreeC _ _ _ (Tr.e _ _) _ _ _; first | (refine treeC_one H rfl rfl (fun w3 H2 K hK => ?_); clear H; (try clear w2); (revert w3; intro w2 H); simp only [List.getElem_toArray, List.getElem_cons_succ, List.getElem_cons_zero]; first | ((first | fail); simp only [Act.put, List.setIfInBounds_toArray, List.set_cons_succ, List.set_cons_zero]) | (go_big_op; (first | fail))) | (refine treeC_one_skip (fun w3 hx => ⟨_, H.ext hx, by repeat first | exact .here | apply Suf.there⟩) rfl rfl (fun w3 hx => ?_); replace H := H.ext hx; clear hx; (try clear w2); revert w3; intro w2 H; simp only [List.getElem_toArray, List.getElem_cons_succ, List.getElem_cons_zero, Act.put, List.setIfInBounds_toArray, List.set_cons_succ, List.set_cons_zero])) | (guard_target =~ wpTreeC _ _ _ Tr.nil _ _ _; refine treeC_nil H (fun w3 H2 => ?_); clear H; (try clear w2); revert w3; intro w2 H)))
                        go_meet
                        case rel => exact ⟨by rw [hvz]; rfl, H⟩
                      · go_wp2_with (first
                          | (guard_target =~ Code.wp _ (Code.region 9 _ true) _ _ _; refine region_treeC0 9 (G := True) (.q 0 (.q 1 (.q 2 (.q 3 (.q 4 (.q 5 (.q 9 (.q 10 (.q 11 (.q 13 (.e 6 (.q 7 (.q 8 (.q 12 (.q 14 (.q 15 (.q 16 (.q 17 .nil)))))))))))))))))) (by kernel_rfl) (by intro c a d v w h; cases d <;> first | exact h | exact hQ h) (by kernel_rfl) H ⟨trivial⟩ (fun _ w3 H2 => ?_); (clear H; (try clear w2); revert w3; intro w2 H))
                          | (guard_target =~ wpTreeC _ _ _ _ _ _ _; first | (guard_target =~ wpTreeC _ _ _ (Tr.e _ Tr.nil) _ _ _; refine treeC_last (by decide +kernel) H rfl rfl (fun w3 H2 K hK => ?_); clear H; (try clear w2); (revert w3; intro w2 H); simp only [List.getElem_toArray, List.getElem_cons_succ, List.getElem_cons_zero]; (first | fail); simp only [Act.put, List.setIfInBounds_toArray, List.set_cons_succ, List.set_cons_zero]) | (guard_target =~ wpTreeC _ _ _ (Tr.q _ _) _ _ _; first | (refine treeC_quiet ⟨_, H, by repeat first | exact .here | apply Suf.there⟩ rfl rfl rfl (fun K hK => ?_); simp only [List.getElem_toArray, List.getElem_cons_succ, List.getElem_cons_zero]; first | (guard_target =~ Oper.quiet _ (Oper.mk _ (.lookup _ _ _ false) _ _ _ _) _ _ _; refine q_segGet (m := ?_) rfl rfl rfl ?_ (hK _ ?_); rotate_left 1; (repeat first | exact .head _ | apply List.Mem.tail); clear hK K; simp only [Act.put, List.setIfInBounds_toArray, List.set_cons_succ, List.set_cons_zero]) | (guard_target =~ Oper.quiet _ (Oper.mk _ (.lookup _ _ _ true) _ _ _ _) _ _ _; refine q_segOk (m := ?_) rfl rfl rfl ?_ (hK _ ?_); rotate_left 1; (repeat first | exact .head _ | apply List.Mem.tail); clear hK K; simp only [Act.put, List.setIfInBounds_toArray, List.set_cons_succ, List.set_cons_zero]) | (guard_target =~ Oper.quiet _ (Oper.mk _ (.load _ _) _ _ _ _) _ _ _; (first | (refine q_loadC (v := ?_) (row := ?_) rfl rfl ?_ ?_ ?_ (hK _ ?_); rotate_left 2; (repeat first | exact .head _ | apply List.Mem.tail); (exact rfl); (focus (intro _; simp; done))) | (refine q_loadNC (row := ?_) rfl rfl ?_ ?_ ?_ (hK _ ?_); rotate_left 1; (repeat first | exact .head _ | apply List.Mem.tail); (focus (intro _; simp; done)); (focus (intro _; simp; done)))); clear hK K; simp only [Act.put, List.setIfInBounds_toArray, List.set_cons_succ, List.set_cons_zero]) | (go_big_quiet_op; (try refine ⟨_, fun _ _ => rfl, ?_⟩); refine hK _ ?_; clear hK K)) | (refine treeC_call (v := ?_) ⟨_, H, by repeat first | exact .here | apply Suf.there⟩ rfl rfl (fun w3 H K hK => ?_) ?_; rotate_left 1; (focus (simp only [List.getElem_toArray, List.getElem_cons_succ, List.getElem_cons_zero]; first | (refine o_segLen (m := ?_) rfl H ?_ ?_; rotate_left 1; (repeat first | exact .head _ | apply List.Mem.tail); exact hK _ (Ext.refl _)) | (go_big_op; first | exact hK _ (Ext.refl _) | (go_at_call 94; (with_reducible refine (h4 _).mono ?_); rintro e w3 ⟨rfl, hb⟩; dsimp only; first | exact hK _ hb | exact hK _ (Ext.refl _))))); simp only [List.getElem_toArray, List.getElem_cons_succ, List.getElem_cons_zero, Act.put, List.setIfInBounds_toArray, List.set_cons_succ, List.set_cons_zero]) | (refine treeC_skip ⟨_, H, by repeat first | exact .here | apply Suf.there⟩ rfl rfl ?_; simp only [List.getElem_toArray, List.getElem_cons_succ, List.getElem_cons_zero, Act.put, List.setIfInBounds_toArray, List.set_cons_succ, List.set_cons_zero])) | (guard_target =~ wpTreeC _ _ _ (Tr.both _ _) _ _ _; refine treeC_both ?_ ?_) | (guard_target =~ wpTreeC _ _ _ (Tr.e _ _) _ _ _; first | (refine treeC_one H rfl rfl (fun w3 H2 K hK => ?_); clear H; (try clear w2); (revert w3; intro w2 H); simp only [List.getElem_toArray, List.getElem_cons_succ, List.getElem_cons_zero]; first | ((first | fail); simp only [Act.put, List.setIfInBounds_toArray, List.set_cons_succ, List.set_cons_zero]) | (go_big_op; (refine hK _ _ ⟨_, H, by repeat first | exact .here | apply Suf.there⟩ ?_; clear hK K; (try simp only [Act.put, List.setIfInBounds_toArray, List.set_cons_succ, List.set_cons_zero])))) | (refine treeC_one_skip (fun w3 hx => ⟨_, H.ext hx, by repeat first | exact .here | apply Suf.there⟩) rfl rfl (fun w3 hx => ?_); replace H := H.ext hx; clear hx; (try clear w2); revert w3; intro w2 H; simp only [List.getElem_toArray, List.getElem_cons_succ, List.getElem_cons_zero, Act.put, List.setIfInBounds_toArray, List.set_cons_succ, List.set_cons_zero])) | (guard_target =~ wpTreeC _ _ _ Tr.nil _ _ _; refine treeC_nil H (fun w3 H2 => ?_); clear H; (try clear w2); revert w3; intro w2 H)))
                        go_meet
                        case rel => exact ⟨by rw [hvz]; rfl, H⟩
                    case rest =>
                      clear H
                      obtain ⟨rfl, H⟩ := hcut
                      obtain ⟨c4, hc4⟩ : ∃ v, ((tp != 0) && decide (0 < sideZ s2 ⟨⟨ax, ay⟩, ⟨bx', by'⟩⟩)) = v := ⟨_, rfl⟩
                      rw [hc4]
                      have HC4 := Lib.hid hc4
                      clear hc4
                      cases c4
                      · go_wp2_with (guard_target =~ wpList _ _ _ (_ :: _) _ _; (first | (guard_target =~ wpList _ _ _ (Oper.mk _ (.call { callee := .builtin .append, args := _, argTypes := _ }) _ _ _ _ :: _) _ _; refine BigFrame.wpList_want rfl (fun K hK => ?_); refine o_append (row := ?_) (n := ?_) (xs := ?_) (l' := ?_) infoIt rfl rfl rfl H ?_ rfl ?_ ?_ (by kernel_rfl) rfl (by decide) ?_ ?_ ?_ (fun v2 w3 H2 hn => hK _ _ ?_); rotate_left 4; (repeat first | exact .head _ | apply List.Mem.tail); (focus (simp; done)); (focus (intro _; (exact r2))); exact rfl; exact (by unfold maxLen; omega); exact (by omega); clear hK K hn; clear H; (try clear w2); revert w3; intro w2 H; simp only [List.take_succ_cons, List.take_zero, Nat.one_mul] at H; (obtain ⟨A7, c7, rfl⟩ := H.growForm (v := v2) (by repeat first | exact .head _ | apply List.Mem.tail))) | ((guard_target =~ wpList _ _ _ (Oper.mk _ (.buildSlice _ _ _) _ _ _ _ :: _) _ _; refine BigFrame.wpList_want rfl (fun K hK => ?_); refine o_buildSlice (C := ?_) (E := ?_) rfl rfl H ?_ rfl (fun w3 b2 he H2 => hK _ _ ?_); rotate_left 2; (focus (intro _; simp [go_sem, Instr.buildSlice]; with_reducible exact rfl))); clear hK K he; clear H; (try clear w2); revert w3; intro w2 H; simp [Act.eval, Value.cells, setL, List.getD] at H)); simp only [Act.put, List.setIfInBounds_toArray, List.set_cons_succ, List.set_cons_zero])
                        go_roundg (gk - 1)
                        case rel =>
                          refine ⟨by omega, by have := HJ.out; congr 1; omega, q + 1, ?_, ?_⟩
                          · rw [show m - (gk - 1) = j + 1 by have := HJ.out; omega, HST.out, if_pos (by rw [HB.out, HC1.out, HC2.out, HC3.out, HC4.out]; rfl), HQ.out]; simp
                          · rw [show m - (gk - 1) = j + 1 by have := HJ.out; omega, HST.out, if_pos (by rw [HB.out, HC1.out, HC2.out, HC3.out, HC4.out]; rfl), nR1_app]
                            exact H.tail.tail
                        case measure => omega
                      · go_wp2_with (first | fail)
                        go_roundg (gk - 1)
                        case rel =>
                          refine ⟨by omega, by have := HJ.out; congr 1; omega, q, ?_, ?_⟩
                          · rw [show m - (gk - 1) = j + 1 by have := HJ.out; omega, HST.out, if_neg (by rw [HB.out]; rw [HC4.out]; simp)]; exact HQ.out
                          · rw [show m - (gk - 1) = j + 1 by have := HJ.out; omega, HST.out, if_neg (by rw [HB.out]; rw [HC4.out]; simp)]; exact H.tail
                        case measure => omega
                  · go_wp2_with (first | fail)
                    go_roundg (gk - 1)
                    case rel =>
                      refine ⟨by omega, by have := HJ.out; congr 1; omega, q, ?_, ?_⟩
                      · rw [show m - (gk - 1) = j + 1 by have := HJ.out; omega, HST.out, if_neg (by rw [HB.out]; rw [HC3.out]; simp)]; exact HQ.out
                      · rw [show m - (gk - 1) = j + 1 by have := HJ.out; omega, HST.out, if_neg (by rw [HB.out]; rw [HC3.out]; simp)]; exact H.tail
                    case measure => omega
              · go_wp2_with (first | fail)
                go_roundg (gk - 1)
                case rel =>
                  refine ⟨by omega, by have := HJ.out; congr 1; omega, q, ?_, ?_⟩
                  · rw [show m - (gk - 1) = j + 1 by have := HJ.out; omega, HST.out, if_neg (by rw [HB.out]; rw [HC2.out]; simp)]; exact HQ.out
                  · rw [show m - (gk - 1) = j + 1 by have := HJ.out; omega, HST.out, if_neg (by rw [HB.out]; rw [HC2.out]; simp)]; exact H.tail
                case measure => omega
          · go_wp2_with (first | fail)
            go_roundg (gk - 1)
            case rel =>
              refine ⟨by omega, by have := HJ.out; congr 1; omega, q, ?_, ?_⟩
              · rw [show m - (gk - 1) = j + 1 by have := HJ.out; omega, HST.out, if_neg (by rw [HB.out]; rw [HC1.out]; simp)]; exact HQ.out
              · rw [show m - (gk - 1) = j + 1 by have := HJ.out; omega, HST.out, if_neg (by rw [HB.out]; rw [HC1.out]; simp)]; exact H.tail
            case measure => omega
      · have tk0 : True := trivial
        go_wp2_with (guard_target =~ wpList _ _ _ (_ :: _) _ _; (first | (guard_target =~ wpList _ _ _ (Oper.mk _ (.load _ _) _ _ _ _ :: _) _ _; refine BigFrame.wpList_want rfl (fun K hK => ?_); (first | (refine o_loadC (v := ?_) (row := ?_) rfl rfl H ?_ ?_ ?_ (hK _ _ ?_); rotate_left 2; (repeat first | exact .head _ | apply List.Mem.tail); (exact rfl); (focus (intro _; simp; done))) | (refine o_loadN (cs := ?_) (r := ?_) rfl rfl H ?_ ?_ ?_ ?_ (hK _ _ ?_); rotate_left 2; (with_reducible assumption); (repeat first | exact .head _ | apply List.Mem.tail); (focus (intro _; simp; done)); (focus (intro _; simp; done)))); clear hK K) | (guard_target =~ wpList _ _ _ (Oper.mk _ (.store _ _ _) _ _ _ _ :: _) _ _; refine BigFrame.wpList_want rfl (fun K hK => ?_); refine o_store (l' := ?_) (row := ?_) rfl rfl H rfl ?_ ?_ ?_ ?_ (fun w3 H2 => hK _ _ ?_); rotate_left 2; (exact r0); (focus (intro _; simp [Act.eval, Value.cells]; done)); (focus (simp [Act.eval, Value.cells]; done)); (exact rfl); clear hK K; clear H; (try clear w2); revert w3; intro w2 H; simp [Act.eval, Value.cells, setL, List.getD] at H) | ((guard_target =~ wpList _ _ _ (Oper.mk _ (.alloc _) _ _ _ _ :: _) _ _; refine BigFrame.wpList_want rfl (fun K hK => ?_); refine o_alloc (z := ?_) rfl ?_ H rfl (fun w3 b2 he H2 => hK _ _ ?_); rotate_left 1; (focus (intro _; simp; with_reducible exact rfl))); clear hK K he; clear H; (try clear w2); revert w3; intro w2 H; simp [Act.eval, Value.cells, setL, List.getD] at H; (clear tk0; rename Nat => b4))); simp only [Act.put, List.setIfInBounds_toArray, List.set_cons_succ, List.set_cons_zero])
        go_roundg (gk - 1)
        case rel =>
          refine ⟨by omega, by have := HJ.out; congr 1; omega, q, ?_, ?_⟩
          · rw [show m - (gk - 1) = j + 1 by have := HJ.out; omega, HST.out]; exact HQ.out
          · rw [show m - (gk - 1) = j + 1 by have := HJ.out; omega, HST.out]; exact H.tail
        case measure => omega
    · obtain rfl : gk = 0 := by omega
      rw [Nat.sub_zero] at H hq
      have hall : ∀ i ∈ crossL P S ⟨⟨ax, ay⟩, ⟨bx', by'⟩⟩ m, i < P.length := fun i hi => by have := crossL_lt hi; have := HM.out; omega
      have hql : q ≤ m := by rw [hq]; exact crossL_len _ _ _ _
      have HQ := Lib.hid hq
      have HALL := Lib.hid hall
      clear hall hq
      generalize hD : crossL P S ⟨⟨ax, ay⟩, ⟨bx', by'⟩⟩ m = D at H HQ HALL
      have HD := Lib.hid hD
      clear hD
      go_wp2_with (go_at_call 95; (with_reducible refine (sortC_any HALL.out HM.out HQ.out (by omega) m1 m2 m4 H).mono ?_); rintro e w3 ⟨rfl, all, hperm, hsort, H2⟩; replace H := H2; clear H2; dsimp only)
      obtain ⟨A7, c7, rfl⟩ := H.growForm m0
      go_ret
      exact ⟨A7, q, c7, all, rfl, ⟨by rw [← HM.out, HD.out]; exact hperm, hsort⟩, by rw [HQ.out]; exact hperm.length_eq.symm, H.sub (.cons_cons _ (.cons _ (.cons _ (List.Sublist.refl _))))⟩
end Go.Proofs.Ytlhmjhildlnokaa
