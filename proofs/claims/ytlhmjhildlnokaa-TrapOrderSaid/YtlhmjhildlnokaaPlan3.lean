/-
  The maps of plan, and whether a line meets an edge.
-/
import Derived.Test.YtlhmjhildlnokaaPlan1
import Derived.Test.YtlhmjhildlnokaaGeom4
namespace Go.Proofs.Ytlhmjhildlnokaa
set_option linter.unusedVariables false
set_option linter.unusedSimpArgs false
open Go.RowKit

abbrev mAt (b : Nat) (m : Int → Option Pt) : Res := mapR (Value.int .i64) kP b m
abbrev mHas (b : Nat) (m : Pt → Option Bool) : Res := mapR kP Value.bool b m
abbrev zP : Pt := ⟨0, 0⟩
section
variable {o : Oper} {a : Act} {w w0 : World} {B : Nat} {l : List Res} {Q : Exit → Act → World → Prop} {x y z : Operand} {b : Nat} {C : Act → World → Prop}
theorem und_at : Try.prog.underlying 98 = some (.map 3 47) := by kernel_rfl
theorem und_met : Try.prog.underlying 99 = some (.map 47 4) := by kernel_rfl
theorem und_pair : Try.prog.underlying 100 = some (.map 102 4) := by kernel_rfl
theorem zero_pt (w : World) : (zeroValue 47).run Try.prog w = .ok (kP zP) w := by simp
theorem zero_bool (w : World) : (zeroValue 4).run Try.prog w = .ok (.bool false) w := by simp
theorem o_atMake (ho : o.op = .makeMap 98 none) (H : Own B w0 w l) (hk : ∀ w' b, Ext w w' → Own B w0 w' (mAt b (fun _ => none) :: l) → C (a.put o.dst (.map (some b))) w') : o.wp Try.prog a w C Q := o_makeMap _ _ ho H hk
theorem o_metMake (ho : o.op = .makeMap 99 none) (H : Own B w0 w l) (hk : ∀ w' b, Ext w w' → Own B w0 w' (mHas b (fun _ => none) :: l) → C (a.put o.dst (.map (some b))) w') : o.wp Try.prog a w C Q := o_makeMap _ _ ho H hk
theorem o_pairMake (ho : o.op = .makeMap 100 none) (H : Own B w0 w l) (hk : ∀ w' b, Ext w w' → Own B w0 w' (mHas b (fun _ => none) :: l) → C (a.put o.dst (.map (some b))) w') : o.wp Try.prog a w C Q := o_makeMap _ _ ho H hk
theorem o_atGet {m : Int → Option Pt} {n : Int} (ho : o.op = .lookup 98 x y false) (hx : a.eval x = .map (some b)) (hy : a.eval y = .int .i64 n) (H : Own B w0 w l) (hm : mAt b m ∈ l)
    (hk : C (a.put o.dst (pV ((m n).getD zP).x ((m n).getD zP).y)) w) : o.wp Try.prog a w C Q := o_lookup key_int (zv := zP) ho hx hy H hm und_at zero_pt hk
theorem o_atOk {m : Int → Option Pt} {n : Int} (ho : o.op = .lookup 98 x y true) (hx : a.eval x = .map (some b)) (hy : a.eval y = .int .i64 n) (H : Own B w0 w l) (hm : mAt b m ∈ l)
    (hk : C (a.put o.dst (.tuple #[pV ((m n).getD zP).x ((m n).getD zP).y, .bool (m n).isSome])) w) : o.wp Try.prog a w C Q := o_lookupOk key_int (zv := zP) ho hx hy H hm und_at zero_pt hk
theorem o_atSet {l0 : (Int → Option Pt) → List Res} {m : Int → Option Pt} {n p q : Int} (ho : o.op = .mapUpdate 98 x y z) (hx : a.eval x = .map (some b)) (hy : a.eval y = .int .i64 n) (hz : a.eval z = pV p q) (H : Own B w0 w l)
    (hrep : ∀ m', Rep (mAt b m) (mAt b m') l (l0 m')) (hk : ∀ w', Own B w0 w' (l0 (upd m n ⟨p, q⟩)) → C (a.put o.dst undef) w') : o.wp Try.prog a w C Q := o_mapUpdate key_int (v := (⟨p, q⟩ : Pt)) ho hx hy hz H hrep und_at hk
theorem o_metGet {m : Pt → Option Bool} {n p : Int} (ho : o.op = .lookup 99 x y false) (hx : a.eval x = .map (some b)) (hy : a.eval y = pV n p) (H : Own B w0 w l) (hm : mHas b m ∈ l)
    (hk : C (a.put o.dst (.bool ((m ⟨n, p⟩).getD false))) w) : o.wp Try.prog a w C Q := o_lookup key_pt (k := (⟨n, p⟩ : Pt)) (zv := false) ho hx hy H hm und_met zero_bool hk
theorem o_metOk {m : Pt → Option Bool} {n p : Int} (ho : o.op = .lookup 99 x y true) (hx : a.eval x = .map (some b)) (hy : a.eval y = pV n p) (H : Own B w0 w l) (hm : mHas b m ∈ l)
    (hk : C (a.put o.dst (.tuple #[.bool ((m ⟨n, p⟩).getD false), .bool (m ⟨n, p⟩).isSome])) w) : o.wp Try.prog a w C Q := o_lookupOk key_pt (k := (⟨n, p⟩ : Pt)) (zv := false) ho hx hy H hm und_met zero_bool hk
theorem o_metSet {l0 : (Pt → Option Bool) → List Res} {m : Pt → Option Bool} {n p : Int} {v : Bool} (ho : o.op = .mapUpdate 99 x y z) (hx : a.eval x = .map (some b)) (hy : a.eval y = pV n p) (hz : a.eval z = .bool v) (H : Own B w0 w l)
    (hrep : ∀ m', Rep (mHas b m) (mHas b m') l (l0 m')) (hk : ∀ w', Own B w0 w' (l0 (upd m ⟨n, p⟩ v)) → C (a.put o.dst undef) w') : o.wp Try.prog a w C Q := o_mapUpdate key_pt (k := (⟨n, p⟩ : Pt)) ho hx hy hz H hrep und_met hk
theorem o_pairGet {m : Pt → Option Bool} {n p : Int} (ho : o.op = .lookup 100 x y false) (hx : a.eval x = .map (some b)) (hy : a.eval y = pV n p) (H : Own B w0 w l) (hm : mHas b m ∈ l)
    (hk : C (a.put o.dst (.bool ((m ⟨n, p⟩).getD false))) w) : o.wp Try.prog a w C Q := o_lookup key_pair (k := (⟨n, p⟩ : Pt)) (zv := false) ho hx hy H hm und_pair zero_bool hk
theorem o_pairOk {m : Pt → Option Bool} {n p : Int} (ho : o.op = .lookup 100 x y true) (hx : a.eval x = .map (some b)) (hy : a.eval y = pV n p) (H : Own B w0 w l) (hm : mHas b m ∈ l)
    (hk : C (a.put o.dst (.tuple #[.bool ((m ⟨n, p⟩).getD false), .bool (m ⟨n, p⟩).isSome])) w) : o.wp Try.prog a w C Q := o_lookupOk key_pair (k := (⟨n, p⟩ : Pt)) (zv := false) ho hx hy H hm und_pair zero_bool hk
theorem o_pairSet {l0 : (Pt → Option Bool) → List Res} {m : Pt → Option Bool} {n p : Int} {v : Bool} (ho : o.op = .mapUpdate 100 x y z) (hx : a.eval x = .map (some b)) (hy : a.eval y = pV n p) (hz : a.eval z = .bool v) (H : Own B w0 w l)
    (hrep : ∀ m', Rep (mHas b m) (mHas b m') l (l0 m')) (hk : ∀ w', Own B w0 w' (l0 (upd m ⟨n, p⟩ v)) → C (a.put o.dst undef) w') : o.wp Try.prog a w C Q := o_mapUpdate key_pair (k := (⟨n, p⟩ : Pt)) ho hx hy hz H hrep und_pair hk
end
/-- Where the vertices are: what was said last counts. -/
def atM (l : List Vt) : Int → Option Pt := l.foldl (fun m v => upd m v.id v.p) (fun _ => none)
theorem atM_step {vs : List Vt} {k : Nat} {i x y : Int} (h : vs[k]? = some ⟨i, ⟨x, y⟩⟩) : atM (vs.take (k + 1)) = upd (atM (vs.take k)) i ⟨x, y⟩ := by
  unfold atM
  rw [List.take_add_one, h, List.foldl_append]; rfl
def atP (vs : List Vt) (n : Int) : Pt := (atM vs n).getD zP
def crossB (vs : List Vt) (es : List Eg) (a b : Pt) : Bool := es.any fun e => meetB a b (atP vs e.a) (atP vs e.b)
set_option maxRecDepth 100000 in
set_option maxHeartbeats 4000000 in
theorem crossed_any (vs : List Vt) (es : List Eg) (A A2 : Option Addr) (n m : Nat) (c c2 : Nat) (F : Nat → Prop) (ax ay bx b_y : Int) (w : World) (hn : n = vs.length) (hm : m = es.length) (hs : Sl F w A (vR vs)) (hs2 : Sl F w A2 (eR es)) (hl : n ≤ 1000000) (hl2 : m ≤ 1000000) :
    Calls Try.prog 58 #[.agg #[.slice A n c, .slice A2 m c2], pV ax ay, pV bx b_y] w fun e w' => e = .returned (.bool (crossB vs es ⟨ax, ay⟩ ⟨bx, b_y⟩)) ∧ Below w.heap.size w w' := by
  obtain ⟨v, hv⟩ : ∃ v, crossB vs es ⟨ax, ay⟩ ⟨bx, b_y⟩ = v := ⟨_, rfl⟩
  have HV := Lib.hid hv
  rw [hv]; clear hv
  obtain ⟨b0, o0, H1, f0⟩ := (Own.start w).addSl (hs.ro (by rfl))
  obtain ⟨b9, o9, H, f9⟩ := H1.addSl (hs2.ro (by rfl))
  clear hs hs2 H1
  subst hn hm
  go_enter Try.func58, Try.ntmps58
  have tk0 : True := trivial
  have tk1 : True := trivial
  have tk2 : True := trivial
  have tk3 : True := trivial
  go_wp2_with (guard_target =~ wpList _ _ _ (_ :: _) _ _; (first | (guard_target =~ wpList _ _ _ (Oper.mk _ (.load _ _) _ _ _ _ :: _) _ _; refine BigFrame.wpList_want rfl (fun K hK => ?_); (refine o_loadC (v := ?_) (row := ?_) rfl rfl H ?_ ?_ ?_ (hK _ _ ?_); rotate_left 2; (repeat first | exact .head _ | apply List.Mem.tail); (exact rfl); (focus (intro _; simp; done))); clear hK K) | ((guard_target =~ wpList _ _ _ (Oper.mk _ (.box _ _) _ _ _ _ :: _) _ _; refine BigFrame.wpList_want rfl (fun K hK => ?_); refine o_box rfl H rfl (fun w3 b2 he H2 => hK _ _ ?_)); clear hK K he; clear H; (try clear w2); revert w3; intro w2 H; simp [Act.eval, Value.cells, setL, List.getD] at H; (first | (clear tk0; rename Nat => b1) | (clear tk1; rename Nat => b2) | (clear tk2; rename Nat => b3))) | (guard_target =~ wpList _ _ _ (Oper.mk _ (.makeMap _ _) _ _ _ _ :: _) _ _; refine BigFrame.wpList_want rfl (fun K hK => ?_); refine o_atMake rfl H (fun w3 b2 he H2 => hK _ _ ?_); clear hK K he; clear H; (try clear w2); revert w3; intro w2 H; (clear tk3; rename Nat => b4))); simp only [Act.put, List.setIfInBounds_toArray, List.set_cons_succ, List.set_cons_zero])
  go_loopg [16] vs.length (fun k i wr => k ≤ vs.length ∧ i = .int .i64 ((vs.length - k : Nat) : Int) ∧ Own w.heap.size w wr [mAt b4 (atM (vs.take (vs.length - k))), .cells b3 [.int .i64 bx, .int .i64 b_y], .cells b2 [.int .i64 ax, .int .i64 ay], .cells b1 [.slice A vs.length c, .slice A2 es.length c2], .rd A2 b9 o9 (eR es), .rd A b0 o0 (vR vs)])
  case atStart => exact ⟨Nat.le_refl _, by simp, by rw [Nat.sub_self]; exact H⟩
  case round =>
    clear H
    obtain ⟨hk, rfl, H⟩ := hrel
    by_cases hlt : 0 < gk
    · obtain ⟨j, hj⟩ : ∃ j, vs.length - gk = j := ⟨_, rfl⟩
      have hjl : j < vs.length := by omega
      rw [hj] at H ⊢
      obtain ⟨i, x, y, he⟩ := vt_at vs hjl
      obtain rfl := H.rdAddr m5 (vR_pos he)
      have hp := at_v (A := some ⟨b0, o0, none⟩) (b := b0) (off := o0) he
      have hst := atM_step he
      generalize atM (vs.take j) = mm at H hst
      have HE := Lib.hid hst
      have HJ := Lib.hid hj
      clear he hst hj
      have tk0 : True := trivial
      go_wp2_with (guard_target =~ wpList _ _ _ (_ :: _) _ _; (first | (guard_target =~ wpList _ _ _ (Oper.mk _ (.load _ _) _ _ _ _ :: _) _ _; refine BigFrame.wpList_want rfl (fun K hK => ?_); (first | (refine o_loadPt (n := ?_) (d := ?_) rfl rfl H ?_ ?_ ?_ (hK _ _ ?_); rotate_left 2; (repeat first | exact .head _ | apply List.Mem.tail); (focus (intro _; simp; done)); (focus (intro _; simp; done))) | (refine o_loadC (v := ?_) (row := ?_) rfl rfl H ?_ ?_ ?_ (hK _ _ ?_); rotate_left 2; (repeat first | exact .head _ | apply List.Mem.tail); (exact rfl); (focus (intro _; simp; done))) | (refine o_loadN (cs := ?_) (r := ?_) rfl rfl H ?_ ?_ ?_ ?_ (hK _ _ ?_); rotate_left 2; (with_reducible assumption); (repeat first | exact .head _ | apply List.Mem.tail); (focus (intro _; simp; done)); (focus (intro _; simp; done)))); clear hK K) | (guard_target =~ wpList _ _ _ (Oper.mk _ (.store _ _ _) _ _ _ _ :: _) _ _; refine BigFrame.wpList_want rfl (fun K hK => ?_); refine o_store (l' := ?_) (row := ?_) rfl rfl H rfl ?_ ?_ ?_ ?_ (fun w3 H2 => hK _ _ ?_); rotate_left 2; (exact r0); (focus (intro _; simp [Act.eval, Value.cells]; done)); (focus (simp [Act.eval, Value.cells]; done)); (exact rfl); clear hK K; clear H; (try clear w2); revert w3; intro w2 H; simp [Act.eval, Value.cells, setL, List.getD] at H) | ((guard_target =~ wpList _ _ _ (Oper.mk _ (.alloc _) _ _ _ _ :: _) _ _; refine BigFrame.wpList_want rfl (fun K hK => ?_); refine o_alloc (z := ?_) rfl ?_ H rfl (fun w3 b2 he H2 => hK _ _ ?_); rotate_left 1; (focus (intro _; simp; with_reducible exact rfl))); clear hK K he; clear H; (try clear w2); revert w3; intro w2 H; simp [Act.eval, Value.cells, setL, List.getD] at H; (clear tk0; rename Nat => b5)) | (guard_target =~ wpList _ _ _ (Oper.mk _ (.mapUpdate _ _ _ _) _ _ _ _ :: _) _ _; refine BigFrame.wpList_want rfl (fun K hK => ?_); refine o_atSet (l0 := ?_) (m := ?_) rfl rfl rfl rfl H ?_ (fun w3 H2 => hK _ _ ?_); rotate_left 2; (focus (intro _; (exact r1))); clear hK K; clear H; (try clear w2); revert w3; intro w2 H)); simp only [Act.put, List.setIfInBounds_toArray, List.set_cons_succ, List.set_cons_zero])
      go_roundg (gk - 1)
      case rel => exact ⟨by omega, by have := HJ.out; congr 1; omega, by rw [show vs.length - (gk - 1) = j + 1 by have := HJ.out; omega, HE.out]; exact H.tail⟩
      case measure => omega
    · obtain rfl : gk = 0 := by omega
      rw [Nat.sub_zero, List.take_length] at H
      have hcr : crossB vs es ⟨ax, ay⟩ ⟨bx, b_y⟩ = (es.any fun e => meetB ⟨ax, ay⟩ ⟨bx, b_y⟩ ((atM vs e.a).getD zP) ((atM vs e.b).getD zP)) := rfl
      rw [hcr] at HV
      generalize atM vs = mm at H HV
      clear hcr
      generalize hf : (fun e : Eg => meetB ⟨ax, ay⟩ ⟨bx, b_y⟩ ((mm e.a).getD zP) ((mm e.b).getD zP)) = f at HV
      have tk0 : True := trivial
      go_wp2_with (guard_target =~ wpList _ _ _ (_ :: _) _ _; (guard_target =~ wpList _ _ _ (Oper.mk _ (.load _ _) _ _ _ _ :: _) _ _; refine BigFrame.wpList_want rfl (fun K hK => ?_); (refine o_loadC (v := ?_) (row := ?_) rfl rfl H ?_ ?_ ?_ (hK _ _ ?_); rotate_left 2; (repeat first | exact .head _ | apply List.Mem.tail); (exact rfl); (focus (intro _; simp; done))); clear hK K); simp only [Act.put, List.setIfInBounds_toArray, List.set_cons_succ, List.set_cons_zero])
      go_loopg [29] es.length (fun k i wr => k ≤ es.length ∧ i = .int .i64 ((es.length - k : Nat) : Int) ∧ (es.take (es.length - k)).any f = false ∧ Own w.heap.size w wr [mAt b4 mm, .cells b3 [.int .i64 bx, .int .i64 b_y], .cells b2 [.int .i64 ax, .int .i64 ay], .cells b1 [.slice A vs.length c, .slice A2 es.length c2], .rd A2 b9 o9 (eR es), .rd A b0 o0 (vR vs)])
      case atStart => exact ⟨Nat.le_refl _, by simp, by simp, H⟩
      case round =>
        clear H
        obtain ⟨hk2, rfl, ht, H⟩ := hrel
        have HT := Lib.hid ht
        clear ht
        by_cases hlt2 : 0 < gk
        · obtain ⟨j, hj⟩ : ∃ j, es.length - gk = j := ⟨_, rfl⟩
          have hjl : j < es.length := by omega
          rw [hj] at HT ⊢
          obtain ⟨i, x, y, he⟩ := eg_at es hjl
          obtain rfl := H.rdAddr m4 (eR_pos he)
          have hp := at_e (A := some ⟨b9, o9, none⟩) (b := b9) (off := o9) he
          have hmt := meet_any ax ay bx b_y ((mm x).getD zP).x ((mm x).getD zP).y ((mm y).getD zP).x ((mm y).getD zP).y
          have hfv : f ⟨i, x, y⟩ = meetB ⟨ax, ay⟩ ⟨bx, b_y⟩ ((mm x).getD zP) ((mm y).getD zP) := by rw [← hf]
          obtain ⟨v1, hv1⟩ : ∃ v, meetB ⟨ax, ay⟩ ⟨bx, b_y⟩ ((mm x).getD zP) ((mm y).getD zP) = v := ⟨_, rfl⟩
          have e9 : meetB ⟨ax, ay⟩ ⟨bx, b_y⟩ ⟨((mm x).getD zP).x, ((mm x).getD zP).y⟩ ⟨((mm y).getD zP).x, ((mm y).getD zP).y⟩ = v1 := hv1
          rw [hv1] at hfv
          rw [e9] at hmt
          have HF := Lib.hid hfv
          have HE := Lib.hid he
          have HJ := Lib.hid hj
          clear hv1 hfv he hj hf e9
          cases v1
          · have tk0 : True := trivial
            go_wp2_with (first
              | (go_at_call 80; (with_reducible refine (hmt _).mono ?_); rintro e w3 ⟨rfl, hb⟩; replace H := H.ext hb; clear hb; dsimp only)
              | (guard_target =~ wpList _ _ _ (_ :: _) _ _; (first | (guard_target =~ wpList _ _ _ (Oper.mk _ (.load _ _) _ _ _ _ :: _) _ _; refine BigFrame.wpList_want rfl (fun K hK => ?_); (first | (refine o_loadC (v := ?_) (row := ?_) rfl rfl H ?_ ?_ ?_ (hK _ _ ?_); rotate_left 2; (repeat first | exact .head _ | apply List.Mem.tail); (exact rfl); (focus (intro _; simp; done))) | (refine o_loadN (cs := ?_) (r := ?_) rfl rfl H ?_ ?_ ?_ ?_ (hK _ _ ?_); rotate_left 2; (with_reducible assumption); (repeat first | exact .head _ | apply List.Mem.tail); (focus (intro _; simp; done)); (focus (intro _; simp; done))) | (refine o_loadNC (row := ?_) rfl rfl H ?_ ?_ ?_ (hK _ _ ?_); rotate_left 1; (repeat first | exact .head _ | apply List.Mem.tail); (focus (intro _; simp; done)); (focus (intro _; simp; done)))); clear hK K) | (guard_target =~ wpList _ _ _ (Oper.mk _ (.store _ _ _) _ _ _ _ :: _) _ _; refine BigFrame.wpList_want rfl (fun K hK => ?_); refine o_store (l' := ?_) (row := ?_) rfl rfl H rfl ?_ ?_ ?_ ?_ (fun w3 H2 => hK _ _ ?_); rotate_left 2; (exact r0); (focus (intro _; simp [Act.eval, Value.cells]; done)); (focus (simp [Act.eval, Value.cells]; done)); (exact rfl); clear hK K; clear H; (try clear w2); revert w3; intro w2 H; simp [Act.eval, Value.cells, setL, List.getD] at H) | ((guard_target =~ wpList _ _ _ (Oper.mk _ (.alloc _) _ _ _ _ :: _) _ _; refine BigFrame.wpList_want rfl (fun K hK => ?_); refine o_alloc (z := ?_) rfl ?_ H rfl (fun w3 b2 he H2 => hK _ _ ?_); rotate_left 1; (focus (intro _; simp; with_reducible exact rfl))); clear hK K he; clear H; (try clear w2); revert w3; intro w2 H; simp [Act.eval, Value.cells, setL, List.getD] at H; (clear tk0; rename Nat => b5)) | (guard_target =~ wpList _ _ _ (Oper.mk _ (.lookup _ _ _ false) _ _ _ _ :: _) _ _; refine BigFrame.wpList_want rfl (fun K hK => ?_); refine o_atGet (m := ?_) rfl rfl rfl H ?_ (hK _ _ ?_); rotate_left 1; (repeat first | exact .head _ | apply List.Mem.tail); clear hK K)); simp only [Act.put, List.setIfInBounds_toArray, List.set_cons_succ, List.set_cons_zero]))
            go_roundg (gk - 1)
            case rel => exact ⟨by omega, by have := HJ.out; congr 1; omega, by rw [show es.length - (gk - 1) = j + 1 by have := HJ.out; omega]; exact any_step HE.out HT.out HF.out, H.tail⟩
            case measure => omega
          · have tk0 : True := trivial
            go_wp2_with (first
              | (go_at_call 80; (with_reducible refine (hmt _).mono ?_); rintro e w3 ⟨rfl, hb⟩; replace H := H.ext hb; clear hb; dsimp only)
              | (guard_target =~ wpList _ _ _ (_ :: _) _ _; (first | (guard_target =~ wpList _ _ _ (Oper.mk _ (.load _ _) _ _ _ _ :: _) _ _; refine BigFrame.wpList_want rfl (fun K hK => ?_); (first | (refine o_loadC (v := ?_) (row := ?_) rfl rfl H ?_ ?_ ?_ (hK _ _ ?_); rotate_left 2; (repeat first | exact .head _ | apply List.Mem.tail); (exact rfl); (focus (intro _; simp; done))) | (refine o_loadN (cs := ?_) (r := ?_) rfl rfl H ?_ ?_ ?_ ?_ (hK _ _ ?_); rotate_left 2; (with_reducible assumption); (repeat first | exact .head _ | apply List.Mem.tail); (focus (intro _; simp; done)); (focus (intro _; simp; done))) | (refine o_loadNC (row := ?_) rfl rfl H ?_ ?_ ?_ (hK _ _ ?_); rotate_left 1; (repeat first | exact .head _ | apply List.Mem.tail); (focus (intro _; simp; done)); (focus (intro _; simp; done)))); clear hK K) | (guard_target =~ wpList _ _ _ (Oper.mk _ (.store _ _ _) _ _ _ _ :: _) _ _; refine BigFrame.wpList_want rfl (fun K hK => ?_); refine o_store (l' := ?_) (row := ?_) rfl rfl H rfl ?_ ?_ ?_ ?_ (fun w3 H2 => hK _ _ ?_); rotate_left 2; (exact r0); (focus (intro _; simp [Act.eval, Value.cells]; done)); (focus (simp [Act.eval, Value.cells]; done)); (exact rfl); clear hK K; clear H; (try clear w2); revert w3; intro w2 H; simp [Act.eval, Value.cells, setL, List.getD] at H) | ((guard_target =~ wpList _ _ _ (Oper.mk _ (.alloc _) _ _ _ _ :: _) _ _; refine BigFrame.wpList_want rfl (fun K hK => ?_); refine o_alloc (z := ?_) rfl ?_ H rfl (fun w3 b2 he H2 => hK _ _ ?_); rotate_left 1; (focus (intro _; simp; with_reducible exact rfl))); clear hK K he; clear H; (try clear w2); revert w3; intro w2 H; simp [Act.eval, Value.cells, setL, List.getD] at H; (clear tk0; rename Nat => b5)) | (guard_target =~ wpList _ _ _ (Oper.mk _ (.lookup _ _ _ false) _ _ _ _ :: _) _ _; refine BigFrame.wpList_want rfl (fun K hK => ?_); refine o_atGet (m := ?_) rfl rfl rfl H ?_ (hK _ _ ?_); rotate_left 1; (repeat first | exact .head _ | apply List.Mem.tail); clear hK K)); simp only [Act.put, List.setIfInBounds_toArray, List.set_cons_succ, List.set_cons_zero]))
            go_ret
            exact ⟨ret_b (by rw [← HV.out, any_yes HE.out HF.out]), H.below⟩
        · obtain rfl : gk = 0 := by omega
          have tk0 : True := trivial
          go_wp2_with (first | fail)
          go_ret
          exact ⟨ret_b (by rw [← HV.out, ← HT.out, Nat.sub_zero, List.take_length]), H.below⟩
end Go.Proofs.Ytlhmjhildlnokaa
