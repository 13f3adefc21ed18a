/-
  The function that spin.turn sorts by, at a world that it only reads.
-/
import Derived.Test.YtlhmjhildlnokaaSpin2
import Derived.Test.YtlhmjhildlnokaaGeom5
namespace Go.Proofs.Ytlhmjhildlnokaa
set_option linter.unusedVariables false
set_option linter.unusedSimpArgs false
open Go.RowKit

section
variable {P : Program} {K V : Type} [DecidableEq K] {kt : TypeId} {kf : K → Value} {vf : V → Value} {B : Nat} {w0 w w' : World} {l l' : List Res} {ty et : TypeId} {b : Nat} {m : K → Option V} {o : Oper} {a : Act} {x y : Operand} {Q : Exit → Act → World → Prop}
/-- A map that is only read. -/
def mapO (kf : K → Value) (vf : V → Value) (b : Nat) (m : K → Option V) : Res := .any true (fun k => k = b) (MapIs kf vf b m)
theorem o_lookupO {C : Act → World → Prop} (hK : KeyOK P kt kf) {zv : V} {k : K} (ho : o.op = .lookup ty x y false) (hx : a.eval x = .map (some b)) (hy : a.eval y = kf k) (H : Own B w0 w l) (hm : mapO kf vf b m ∈ l)
    (ht : P.underlying ty = some (.map kt et)) (hz : ∀ w, (zeroValue et).run P w = .ok (vf zv) w) (hk : C (a.put o.dst (vf ((m k).getD zv))) w) : o.wp P a w C Q := by
  unfold Oper.wp execOp
  have := run_lookup (P := P) hK ht hz (H.holds _ hm w fun _ _ => rfl) k false
  simp only [ho, hx, hy, Sem.run_bind, this]
  exact hk
theorem q_lookupO {lf : List Res} {Kq : Act → Prop} (hK : KeyOK P kt kf) {zv : V} {k : K} (ho : o.op = .lookup ty x y false) (hx : a.eval x = .map (some b)) (hy : a.eval y = kf k) (hm : mapO kf vf b m ∈ lf)
    (ht : P.underlying ty = some (.map kt et)) (hz : ∀ w, (zeroValue et).run P w = .ok (vf zv) w) (hk : Kq (a.put o.dst (vf ((m k).getD zv)))) : o.quiet P a (Keeps B w0 lf) Kq :=
  ⟨_, fun w' ⟨l, H, hs⟩ => by
    unfold Oper.quietAt execOp
    have := run_lookup (P := P) hK ht hz (H.holds _ (hs.mem hm) w' fun _ _ => rfl) k false
    simp only [ho, hx, hy, Sem.run_bind, this]
    exact ⟨rfl, rfl⟩, hk⟩
end
section
variable {o : Oper} {a : Act} {w w0 : World} {B : Nat} {l : List Res} {Q : Exit → Act → World → Prop} {x y z : Operand} {b : Nat} {C : Act → World → Prop}
abbrev mVatO (b : Nat) (m : Int → Option Vt) : Res := mapO (Value.int .i64) vxV b m
abbrev mFromO (b : Nat) (m : Hf → Option Int) : Res := mapO hV (Value.int .i64) b m
theorem o_vatOGet {m : Int → Option Vt} {n : Int} (ho : o.op = .lookup 84 x y false) (hx : a.eval x = .map (some b)) (hy : a.eval y = .int .i64 n) (H : Own B w0 w l) (hm : mVatO b m ∈ l)
    (hk : C (a.put o.dst (vxV ((m n).getD zVt))) w) : o.wp Try.prog a w C Q := o_lookupO key_int (k := n) (zv := zVt) ho hx hy H hm und_vat zero_vat hk
theorem q_vatOGet {m : Int → Option Vt} {n : Int} {lf : List Res} {Kq : Act → Prop} (ho : o.op = .lookup 84 x y false) (hx : a.eval x = .map (some b)) (hy : a.eval y = .int .i64 n) (hm : mVatO b m ∈ lf)
    (hk : Kq (a.put o.dst (vxV ((m n).getD zVt)))) : o.quiet Try.prog a (Keeps B w0 lf) Kq := q_lookupO key_int (k := n) (zv := zVt) ho hx hy hm und_vat zero_vat hk
theorem o_fromOGet {m : Hf → Option Int} {n : Int} {p : Bool} (ho : o.op = .lookup 85 x y false) (hx : a.eval x = .map (some b)) (hy : a.eval y = .agg #[.int .i64 n, .bool p]) (H : Own B w0 w l) (hm : mFromO b m ∈ l)
    (hk : C (a.put o.dst (.int .i64 ((m (⟨n, p⟩ : Hf)).getD 0))) w) : o.wp Try.prog a w C Q := o_lookupO key_half (k := (⟨n, p⟩ : Hf)) (zv := (0 : Int)) ho hx hy H hm und_from zero_from hk
theorem q_fromOGet {m : Hf → Option Int} {n : Int} {p : Bool} {lf : List Res} {Kq : Act → Prop} (ho : o.op = .lookup 85 x y false) (hx : a.eval x = .map (some b)) (hy : a.eval y = .agg #[.int .i64 n, .bool p]) (hm : mFromO b m ∈ lf)
    (hk : Kq (a.put o.dst (.int .i64 ((m (⟨n, p⟩ : Hf)).getD 0)))) : o.quiet Try.prog a (Keeps B w0 lf) Kq := q_lookupO key_half (k := (⟨n, p⟩ : Hf)) (zv := (0 : Int)) ho hx hy hm und_from zero_from hk
end
set_option maxRecDepth 100000 in
theorem fldP (a b c : Value) (h : 47 < Try.prog.types.size) : (#[a, b, c] : Array Value).extract 1 (1 + (Try.prog.types[47]'h).size) = #[b, c] := by
  have : (Try.prog.types[47]'h).size = 2 := by kernel_rfl
  rw [this]; rfl
set_option maxRecDepth 100000 in
set_option maxHeartbeats 8000000 in
theorem cmp_any {B : Nat} {w0 w : World} {l : List Res} {bo b3 k1 k2 : Nat} {u3 u4 : Value} {ox oy : Int} {mv : Int → Option Vt} {mf : Hf → Option Int} (e f : Int) (b c : Bool)
    (H : Own B w0 w (mVatO k1 mv :: mFromO k2 mf :: .rd (some ⟨b3, 0, none⟩) b3 0 [.map (some k1), .map (some k2), u3, u4] :: .rd (some ⟨bo, 0, none⟩) bo 0 [.int .i64 ox, .int .i64 oy] :: l)) :
    Calls Try.prog 74 #[.agg #[.int .i64 e, .bool b], .agg #[.int .i64 f, .bool c], .pointer (some ⟨bo, 0, none⟩), .pointer (some ⟨b3, 0, none⟩)] w fun r w' =>
      r = .returned (.int .i64 (aroundZ ⟨ox, oy⟩ ((mv ((mf ⟨e, !b⟩).getD 0)).getD zVt).p ((mv ((mf ⟨f, !c⟩).getD 0)).getD zVt).p)) ∧ Below B w0 w' := by
  have hmt := around_any ox oy ((mv ((mf ⟨e, !b⟩).getD 0)).getD zVt).p.x ((mv ((mf ⟨e, !b⟩).getD 0)).getD zVt).p.y ((mv ((mf ⟨f, !c⟩).getD 0)).getD zVt).p.x ((mv ((mf ⟨f, !c⟩).getD 0)).getD zVt).p.y
  have p0 : (Res.rd (some ⟨bo, 0, none⟩) bo 0 [.int .i64 ox, .int .i64 oy]).at bo 0 [.int .i64 ox, .int .i64 oy] := ⟨rfl, 0, rfl, rfl⟩
  have p1 : (Res.rd (some ⟨b3, 0, none⟩) b3 0 [.map (some k1), .map (some k2), u3, u4]).at b3 0 [.map (some k1)] := ⟨rfl, 0, rfl, rfl⟩
  have p2 : (Res.rd (some ⟨b3, 0, none⟩) b3 0 [.map (some k1), .map (some k2), u3, u4]).at b3 1 [.map (some k2)] := ⟨rfl, 1, rfl, rfl⟩
  go_enter Try.func74, Try.ntmps74
  have tk0 : True := trivial
  have tk1 : True := trivial
  go_wp2_with (first
    | (guard_target =~ Code.wp _ (Code.region 1 _ true) _ _ _; refine region_treeC0 1 (G := True) (.q 0 (.q 1 (.q 2 (.q 3 (.q 4 (.q 5 (.q 6 (.q 7 (.q 8 (.q 9 (.q 10 (.q 11 (.q 12 (.q 13 (.q 14 (.q 15 (.q 16 (.q 17 (.q 18 (.q 19 (.q 20 .nil))))))))))))))))))))) (by kernel_rfl) (by intro c a d v w h; cases d <;> exact h) (by kernel_rfl) H ⟨trivial⟩ (fun _ w3 H2 => ?_); (clear H; (try clear w2); revert w3; intro w2 H))
    | (guard_target =~ wpList _ _ _ (_ :: _) _ _; ((guard_target =~ wpList _ _ _ (Oper.mk _ (.box _ _) _ _ _ _ :: _) _ _; refine BigFrame.wpList_want rfl (fun K hK => ?_); refine o_box rfl H rfl (fun w3 b2 he H2 => hK _ _ ?_)); clear hK K he; clear H; (try clear w2); revert w3; intro w2 H; (try simp [Act.eval, List.getD, fldP] at H); (try simp [Value.cells, setL, fldP] at H); (first | (clear tk0; rename Nat => b1) | (clear tk1; rename Nat => b2))); simp only [Act.put, List.setIfInBounds_toArray, List.set_cons_succ, List.set_cons_zero, fldP])
    | (guard_target =~ wpTreeC _ _ _ _ _ _ _; first | (guard_target =~ wpTreeC _ _ _ (Tr.e _ Tr.nil) _ _ _; refine treeC_last (by decide +kernel) H rfl rfl (fun w3 H2 K hK => ?_); clear H; (try clear w2); (revert w3; intro w2 H); simp only [List.getElem_toArray, List.getElem_cons_succ, List.getElem_cons_zero]; (first | fail); simp only [Act.put, List.setIfInBounds_toArray, List.set_cons_succ, List.set_cons_zero, fldP]) | (guard_target =~ wpTreeC _ _ _ (Tr.q _ _) _ _ _; first | (refine treeC_quiet ⟨_, H, by repeat first | exact .here | apply Suf.there⟩ rfl rfl rfl (fun K hK => ?_); simp only [List.getElem_toArray, List.getElem_cons_succ, List.getElem_cons_zero]; first | (guard_target =~ Oper.quiet _ (Oper.mk _ (.lookup _ _ _ false) _ _ _ _) _ _ _; refine q_vatOGet (m := ?_) rfl rfl rfl ?_ (hK _ ?_); rotate_left 1; (repeat first | exact .head _ | apply List.Mem.tail); clear hK K; simp only [Act.put, List.setIfInBounds_toArray, List.set_cons_succ, List.set_cons_zero, fldP]) | (guard_target =~ Oper.quiet _ (Oper.mk _ (.lookup _ _ _ true) _ _ _ _) _ _ _; refine q_vatOOk (m := ?_) rfl rfl rfl ?_ (hK _ ?_); rotate_left 1; (repeat first | exact .head _ | apply List.Mem.tail); clear hK K; simp only [Act.put, List.setIfInBounds_toArray, List.set_cons_succ, List.set_cons_zero, fldP]) | (guard_target =~ Oper.quiet _ (Oper.mk _ (.lookup _ _ _ false) _ _ _ _) _ _ _; refine q_fromOGet (m := ?_) rfl rfl rfl ?_ (hK _ ?_); rotate_left 1; (repeat first | exact .head _ | apply List.Mem.tail); clear hK K; simp only [Act.put, List.setIfInBounds_toArray, List.set_cons_succ, List.set_cons_zero, fldP]) | (guard_target =~ Oper.quiet _ (Oper.mk _ (.lookup _ _ _ true) _ _ _ _) _ _ _; refine q_fromOOk (m := ?_) rfl rfl rfl ?_ (hK _ ?_); rotate_left 1; (repeat first | exact .head _ | apply List.Mem.tail); clear hK K; simp only [Act.put, List.setIfInBounds_toArray, List.set_cons_succ, List.set_cons_zero, fldP]) | (guard_target =~ Oper.quiet _ (Oper.mk _ (.load _ _) _ _ _ _) _ _ _; (first | (refine q_load (v := ?_) (r := ?_) rfl rfl ?_ ?_ ?_ (hK _ ?_); rotate_left 2; (with_reducible assumption); (repeat first | exact .head _ | apply List.Mem.tail); (focus (intro _; simp [fldP]; done))) | (refine q_loadN (cs := ?_) (r := ?_) rfl rfl ?_ ?_ ?_ ?_ (hK _ ?_); rotate_left 2; (with_reducible assumption); (repeat first | exact .head _ | apply List.Mem.tail); (focus (intro _; simp [fldP]; done)); (focus (intro _; simp [fldP]; done))) | (refine q_loadNC (row := ?_) rfl rfl ?_ ?_ ?_ (hK _ ?_); rotate_left 1; (repeat first | exact .head _ | apply List.Mem.tail); (focus (intro _; simp [fldP]; done)); (focus (intro _; simp [fldP]; done)))); clear hK K; simp only [Act.put, List.setIfInBounds_toArray, List.set_cons_succ, List.set_cons_zero, fldP]) | (go_big_quiet_op; (try refine ⟨_, fun _ _ => rfl, ?_⟩); refine hK _ ?_; clear hK K)) | (refine treeC_call (v := ?_) ⟨_, H, by repeat first | exact .here | apply Suf.there⟩ rfl rfl (fun w3 H K hK => ?_) ?_; rotate_left 1; (focus (simp only [List.getElem_toArray, List.getElem_cons_succ, List.getElem_cons_zero]; first | (go_big_op; first | exact hK _ (Ext.refl _) | (go_at_call 19; (with_reducible refine (twin_any _ _ _).mono ?_); rintro e w3 ⟨rfl, hb⟩; dsimp only; first | exact hK _ hb | exact hK _ (Ext.refl _)) | (go_at_call 75; (with_reducible refine (hmt _).mono ?_); rintro e w3 ⟨rfl, hb⟩; dsimp only; first | exact hK _ hb | exact hK _ (Ext.refl _))))); simp only [List.getElem_toArray, List.getElem_cons_succ, List.getElem_cons_zero, Act.put, List.setIfInBounds_toArray, List.set_cons_succ, List.set_cons_zero, fldP]) | (refine treeC_skip ⟨_, H, by repeat first | exact .here | apply Suf.there⟩ rfl rfl ?_; simp only [List.getElem_toArray, List.getElem_cons_succ, List.getElem_cons_zero, Act.put, List.setIfInBounds_toArray, List.set_cons_succ, List.set_cons_zero, fldP])) | (guard_target =~ wpTreeC _ _ _ (Tr.both _ _) _ _ _; refine treeC_both ?_ ?_) | (guard_target =~ wpTreeC _ _ _ (Tr.e _ _) _ _ _; first | (refine treeC_one H rfl rfl (fun w3 H2 K hK => ?_); clear H; (try clear w2); (revert w3; intro w2 H); simp only [List.getElem_toArray, List.getElem_cons_succ, List.getElem_cons_zero]; first | ((first | fail); simp only [Act.put, List.setIfInBounds_toArray, List.set_cons_succ, List.set_cons_zero, fldP]) | (go_big_op; (first | fail))) | (refine treeC_one_skip (fun w3 hx => ⟨_, H.ext hx, by repeat first | exact .here | apply Suf.there⟩) rfl rfl (fun w3 hx => ?_); replace H := H.ext hx; clear hx; (try clear w2); revert w3; intro w2 H; simp only [List.getElem_toArray, List.getElem_cons_succ, List.getElem_cons_zero, Act.put, List.setIfInBounds_toArray, List.set_cons_succ, List.set_cons_zero, fldP])) | (guard_target =~ wpTreeC _ _ _ Tr.nil _ _ _; refine treeC_nil H (fun w3 H2 => ?_); clear H; (try clear w2); revert w3; intro w2 H)))
  go_ret
  exact ⟨rfl, H.below⟩
end Go.Proofs.Ytlhmjhildlnokaa
