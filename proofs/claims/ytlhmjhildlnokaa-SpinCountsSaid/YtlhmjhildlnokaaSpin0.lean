/-
  Halves in memory; the maps of spin: their keys, and the laws on what is done with them.
-/
import Derived.Test.YtlhmjhildlnokaaOwnL
import Derived.Test.YtlhmjhildlnokaaOwnI
import Derived.Test.YtlhmjhildlnokaaOwnM
import Derived.Test.YtlhmjhildlnokaaPack
import Derived.Test.YtlhmjhildlnokaaEqS
import Derived.Test.YtlhmjhildlnokaaSpinM
import Derived.Test.YtlhmjhildlnokaaPlan0
namespace Go.Proofs.Ytlhmjhildlnokaa
set_option linter.unusedVariables false
set_option linter.unusedSimpArgs false
open Go.RowKit

abbrev hV (h : Hf) : Value := .agg #[.int .i64 h.e, .bool h.b]
abbrev h2 (h : Hf) : List Value := [.int .i64 h.e, .bool h.b]
def hR (l : List Hf) : List Value := l.flatMap h2
theorem und_bool0 : Try.prog.underlying 4 = some .bool := by kernel_rfl
theorem agg_bool0 (w : World) : (isAgg 4).run Try.prog w = .ok false w := by kernel_rfl
theorem agg_int1 (w : World) : (isAgg 3).run Try.prog w = .ok false w := by kernel_rfl
theorem eq_int1 (k : Nat) (a b : Int) (w : World) : (Op.equalIn (k + 1) 3 (.int .i64 a) (.int .i64 b)).run Try.prog w = .ok (decide (a = b)) w := by
  simp [Op.equalIn, go_sem, und_int]
  rw [Bool.eq_iff_iff]; simp
theorem eq_bool1 (k : Nat) (a b : Bool) (w : World) : (Op.equalIn (k + 1) 4 (.bool a) (.bool b)).run Try.prog w = .ok (decide (a = b)) w := by
  simp [Op.equalIn, go_sem, und_bool0]
  cases a <;> cases b <;> rfl
theorem hf_eq (k k' : Hf) : (decide (k.e = k'.e) && decide (k.b = k'.b)) = decide (k = k') := by
  obtain ⟨a, b⟩ := k
  obtain ⟨c, d⟩ := k'
  rw [Bool.eq_iff_iff]; simp
theorem eqH_in (k k' : Hf) (w : World) : (Op.equalIn 10000 36 (hV k) (hV k')).run Try.prog w = .ok (decide (k = k')) w := by
  have h := eqS_in (P := Try.prog) (d := 9999) (T := 36) (xs := #[.int .i64 k.e, .bool k.b]) (ys := #[.int .i64 k'.e, .bool k'.b])
    [⟨3, 0, .int .i64 k.e, .int .i64 k'.e, decide (k.e = k'.e)⟩, ⟨4, 1, .bool k.b, .bool k'.b, decide (k.b = k'.b)⟩] (by kernel_rfl) (by kernel_rfl) (by kernel_rfl) (fun f hf => by
      simp only [List.mem_cons, List.not_mem_nil, or_false] at hf
      rcases hf with rfl | rfl
      · exact ⟨part_cell agg_int1 rfl, part_cell agg_int1 rfl, eq_int1 9998 _ _⟩
      · exact ⟨part_cell agg_bool0 rfl, part_cell agg_bool0 rfl, eq_bool1 9998 _ _⟩) w
  rw [← hf_eq]
  simpa using h
theorem key_half : KeyOK Try.prog 36 hV where
  check e k w := by
    have hu : Try.prog.underlying 36 = some (.struct (Try.prog.fieldsOf 36)) := by kernel_rfl
    have hf : (Try.prog.fieldsOf 36).toList.map (fun f => (f.name == "_", f.type, f.offset)) = [(false, 3, 0), (false, 4, 1)] := by kernel_rfl
    have : ∀ n, (Instr.checkKey e (n + 1 + 1) 36 (hV k)).run Try.prog w = .ok () w := fun n => by
      unfold Instr.checkKey
      simp only [Sem.run_bind, run_underlying hu, Result.andThen_ok]
      revert hf
      generalize Try.prog.fieldsOf 36 = l
      obtain ⟨l⟩ := l
      intro hf
      match l, hf with
      | [], hf => simp at hf
      | [_], hf => simp at hf
      | _ :: _ :: _ :: _, hf => simp at hf
      | [f, g], hf =>
        simp at hf
        obtain ⟨⟨f1, f2, f3⟩, g1, g2, g3⟩ := hf
        have p1 := fun w => part_cell (P := Try.prog) (T := 3) (cs := #[.int .i64 k.e, .bool k.b]) (i := 0) agg_int1 rfl w
        have p2 := fun w => part_cell (P := Try.prog) (T := 4) (cs := #[.int .i64 k.e, .bool k.b]) (i := 1) agg_bool0 rfl w
        simp [f1, f2, f3, g1, g2, g3, p1, p2, Instr.checkKey, und_int, und_bool0]
    exact this 9998
  same k := by
    have : ∀ n, Instr.sameBits (n + 1) (hV k) (hV k) = true := fun n => by simp [Instr.sameBits]
    exact this 9999
  find := ⟨.struct (Try.prog.fieldsOf 36), by kernel_rfl, .inr ⟨fun k v => by simp [Instr.sameNow], fun k k' w => eqH_in k k' w⟩⟩
section
variable {P : Program} {K V : Type} [DecidableEq K] {kt : TypeId} {kf : K → Value} {vf : V → Value} {B : Nat} {w0 w w' : World} {l l' : List Res} {ty et : TypeId} {b : Nat} {m : K → Option V} {o : Oper} {a : Act} {x y : Operand}
theorem q_lookup {lf : List Res} {Kq : Act → Prop} (hK : KeyOK P kt kf) {zv : V} {k : K} (ho : o.op = .lookup ty x y false) (hx : a.eval x = .map (some b)) (hy : a.eval y = kf k) (hm : mapR kf vf b m ∈ lf)
    (ht : P.underlying ty = some (.map kt et)) (hz : ∀ w, (zeroValue et).run P w = .ok (vf zv) w) (hk : Kq (a.put o.dst (vf ((m k).getD zv)))) : o.quiet P a (Keeps B w0 lf) Kq :=
  ⟨_, fun w' ⟨l, H, hs⟩ => by
    unfold Oper.quietAt execOp
    have := run_lookup (P := P) hK ht hz (H.holds _ (hs.mem hm) w' fun _ _ => rfl) k false
    simp only [ho, hx, hy, Sem.run_bind, this]
    exact ⟨rfl, rfl⟩, hk⟩
theorem q_lookupOk {lf : List Res} {Kq : Act → Prop} (hK : KeyOK P kt kf) {zv : V} {k : K} (ho : o.op = .lookup ty x y true) (hx : a.eval x = .map (some b)) (hy : a.eval y = kf k) (hm : mapR kf vf b m ∈ lf)
    (ht : P.underlying ty = some (.map kt et)) (hz : ∀ w, (zeroValue et).run P w = .ok (vf zv) w) (hk : Kq (a.put o.dst (.tuple #[vf ((m k).getD zv), .bool (m k).isSome]))) : o.quiet P a (Keeps B w0 lf) Kq :=
  ⟨_, fun w' ⟨l, H, hs⟩ => by
    unfold Oper.quietAt execOp
    have := run_lookup (P := P) hK ht hz (H.holds _ (hs.mem hm) w' fun _ _ => rfl) k true
    simp only [ho, hx, hy, Sem.run_bind, this]
    exact ⟨rfl, rfl⟩, hk⟩
end
def zVt : Vt := ⟨0, ⟨0, 0⟩⟩
abbrev vxV (v : Vt) : Value := v3 v.id v.p.x v.p.y
abbrev mVat (b : Nat) (m : Int → Option Vt) : Res := mapR (Value.int .i64) vxV b m
section
variable {o : Oper} {a : Act} {w w0 : World} {B : Nat} {l : List Res} {Q : Exit → Act → World → Prop} {x y z : Operand} {b : Nat} {C : Act → World → Prop} {m : Int → Option Vt} {n : Int}
theorem und_vat : Try.prog.underlying 84 = some (.map 3 49) := by kernel_rfl
theorem zero_vat (w : World) : (zeroValue 49).run Try.prog w = .ok (vxV zVt) w := by kernel_rfl
theorem o_vatMake (ho : o.op = .makeMap 84 none) (H : Own B w0 w l) (hk : ∀ w' b, Ext w w' → Own B w0 w' (mVat b (fun _ => none) :: l) → C (a.put o.dst (.map (some b))) w') : o.wp Try.prog a w C Q := o_makeMap _ _ ho H hk
theorem o_vatGet (ho : o.op = .lookup 84 x y false) (hx : a.eval x = .map (some b)) (hy : a.eval y = .int .i64 n) (H : Own B w0 w l) (hm : mVat b m ∈ l)
    (hk : C (a.put o.dst (vxV ((m n).getD zVt))) w) : o.wp Try.prog a w C Q := o_lookup key_int (k := n) (zv := zVt) ho hx hy H hm und_vat zero_vat hk
theorem o_vatOk (ho : o.op = .lookup 84 x y true) (hx : a.eval x = .map (some b)) (hy : a.eval y = .int .i64 n) (H : Own B w0 w l) (hm : mVat b m ∈ l)
    (hk : C (a.put o.dst (.tuple #[vxV ((m n).getD zVt), .bool (m n).isSome])) w) : o.wp Try.prog a w C Q := o_lookupOk key_int (k := n) (zv := zVt) ho hx hy H hm und_vat zero_vat hk
theorem q_vatGet {lf : List Res} {Kq : Act → Prop} (ho : o.op = .lookup 84 x y false) (hx : a.eval x = .map (some b)) (hy : a.eval y = .int .i64 n) (hm : mVat b m ∈ lf)
    (hk : Kq (a.put o.dst (vxV ((m n).getD zVt)))) : o.quiet Try.prog a (Keeps B w0 lf) Kq := q_lookup key_int (k := n) (zv := zVt) ho hx hy hm und_vat zero_vat hk
theorem q_vatOk {lf : List Res} {Kq : Act → Prop} (ho : o.op = .lookup 84 x y true) (hx : a.eval x = .map (some b)) (hy : a.eval y = .int .i64 n) (hm : mVat b m ∈ lf)
    (hk : Kq (a.put o.dst (.tuple #[vxV ((m n).getD zVt), .bool (m n).isSome]))) : o.quiet Try.prog a (Keeps B w0 lf) Kq := q_lookupOk key_int (k := n) (zv := zVt) ho hx hy hm und_vat zero_vat hk
theorem o_vatSet {l0 : (Int → Option Vt) → List Res} {i px py : Int} (ho : o.op = .mapUpdate 84 x y z) (hx : a.eval x = .map (some b)) (hy : a.eval y = .int .i64 n) (hz : a.eval z = v3 i px py) (H : Own B w0 w l)
    (hrep : ∀ m', Rep (mVat b m) (mVat b m') l (l0 m')) (hk : ∀ w', Own B w0 w' (l0 (upd m n (⟨i, ⟨px, py⟩⟩ : Vt))) → C (a.put o.dst undef) w') : o.wp Try.prog a w C Q := o_mapUpdate key_int (k := n) (v := (⟨i, ⟨px, py⟩⟩ : Vt)) ho hx hy hz H hrep und_vat hk
end
abbrev mFrom (b : Nat) (m : Hf → Option Int) : Res := mapR hV (Value.int .i64) b m
section
variable {o : Oper} {a : Act} {w w0 : World} {B : Nat} {l : List Res} {Q : Exit → Act → World → Prop} {x y z : Operand} {b : Nat} {C : Act → World → Prop} {m : Hf → Option Int} {n : Int} {p : Bool}
theorem und_from : Try.prog.underlying 85 = some (.map 36 3) := by kernel_rfl
theorem zero_from (w : World) : (zeroValue 3).run Try.prog w = .ok ((Value.int .i64) 0) w := by kernel_rfl
theorem o_fromMake (ho : o.op = .makeMap 85 none) (H : Own B w0 w l) (hk : ∀ w' b, Ext w w' → Own B w0 w' (mFrom b (fun _ => none) :: l) → C (a.put o.dst (.map (some b))) w') : o.wp Try.prog a w C Q := o_makeMap _ _ ho H hk
theorem o_fromGet (ho : o.op = .lookup 85 x y false) (hx : a.eval x = .map (some b)) (hy : a.eval y = .agg #[.int .i64 n, .bool p]) (H : Own B w0 w l) (hm : mFrom b m ∈ l)
    (hk : C (a.put o.dst (.int .i64 ((m (⟨n, p⟩ : Hf)).getD 0))) w) : o.wp Try.prog a w C Q := o_lookup key_half (k := (⟨n, p⟩ : Hf)) (zv := 0) ho hx hy H hm und_from zero_from hk
theorem o_fromOk (ho : o.op = .lookup 85 x y true) (hx : a.eval x = .map (some b)) (hy : a.eval y = .agg #[.int .i64 n, .bool p]) (H : Own B w0 w l) (hm : mFrom b m ∈ l)
    (hk : C (a.put o.dst (.tuple #[.int .i64 ((m (⟨n, p⟩ : Hf)).getD 0), .bool (m (⟨n, p⟩ : Hf)).isSome])) w) : o.wp Try.prog a w C Q := o_lookupOk key_half (k := (⟨n, p⟩ : Hf)) (zv := 0) ho hx hy H hm und_from zero_from hk
theorem q_fromGet {lf : List Res} {Kq : Act → Prop} (ho : o.op = .lookup 85 x y false) (hx : a.eval x = .map (some b)) (hy : a.eval y = .agg #[.int .i64 n, .bool p]) (hm : mFrom b m ∈ lf)
    (hk : Kq (a.put o.dst (.int .i64 ((m (⟨n, p⟩ : Hf)).getD 0)))) : o.quiet Try.prog a (Keeps B w0 lf) Kq := q_lookup key_half (k := (⟨n, p⟩ : Hf)) (zv := 0) ho hx hy hm und_from zero_from hk
theorem q_fromOk {lf : List Res} {Kq : Act → Prop} (ho : o.op = .lookup 85 x y true) (hx : a.eval x = .map (some b)) (hy : a.eval y = .agg #[.int .i64 n, .bool p]) (hm : mFrom b m ∈ lf)
    (hk : Kq (a.put o.dst (.tuple #[.int .i64 ((m (⟨n, p⟩ : Hf)).getD 0), .bool (m (⟨n, p⟩ : Hf)).isSome]))) : o.quiet Try.prog a (Keeps B w0 lf) Kq := q_lookupOk key_half (k := (⟨n, p⟩ : Hf)) (zv := 0) ho hx hy hm und_from zero_from hk
theorem o_fromSet {l0 : (Hf → Option Int) → List Res} {v : Int} (ho : o.op = .mapUpdate 85 x y z) (hx : a.eval x = .map (some b)) (hy : a.eval y = .agg #[.int .i64 n, .bool p]) (hz : a.eval z = .int .i64 v) (H : Own B w0 w l)
    (hrep : ∀ m', Rep (mFrom b m) (mFrom b m') l (l0 m')) (hk : ∀ w', Own B w0 w' (l0 (upd m (⟨n, p⟩ : Hf) v)) → C (a.put o.dst undef) w') : o.wp Try.prog a w C Q := o_mapUpdate key_half (k := (⟨n, p⟩ : Hf)) (v := v) ho hx hy hz H hrep und_from hk
end
abbrev mNxt (b : Nat) (m : Hf → Option Hf) : Res := mapR hV hV b m
section
variable {o : Oper} {a : Act} {w w0 : World} {B : Nat} {l : List Res} {Q : Exit → Act → World → Prop} {x y z : Operand} {b : Nat} {C : Act → World → Prop} {m : Hf → Option Hf} {n : Int} {p : Bool}
theorem und_nxt : Try.prog.underlying 87 = some (.map 36 36) := by kernel_rfl
theorem zero_nxt (w : World) : (zeroValue 36).run Try.prog w = .ok (hV (⟨0, false⟩ : Hf)) w := by kernel_rfl
theorem o_nxtMake (ho : o.op = .makeMap 87 none) (H : Own B w0 w l) (hk : ∀ w' b, Ext w w' → Own B w0 w' (mNxt b (fun _ => none) :: l) → C (a.put o.dst (.map (some b))) w') : o.wp Try.prog a w C Q := o_makeMap _ _ ho H hk
theorem o_nxtGet (ho : o.op = .lookup 87 x y false) (hx : a.eval x = .map (some b)) (hy : a.eval y = .agg #[.int .i64 n, .bool p]) (H : Own B w0 w l) (hm : mNxt b m ∈ l)
    (hk : C (a.put o.dst (hV ((m (⟨n, p⟩ : Hf)).getD (⟨0, false⟩ : Hf)))) w) : o.wp Try.prog a w C Q := o_lookup key_half (k := (⟨n, p⟩ : Hf)) (zv := (⟨0, false⟩ : Hf)) ho hx hy H hm und_nxt zero_nxt hk
theorem o_nxtOk (ho : o.op = .lookup 87 x y true) (hx : a.eval x = .map (some b)) (hy : a.eval y = .agg #[.int .i64 n, .bool p]) (H : Own B w0 w l) (hm : mNxt b m ∈ l)
    (hk : C (a.put o.dst (.tuple #[hV ((m (⟨n, p⟩ : Hf)).getD (⟨0, false⟩ : Hf)), .bool (m (⟨n, p⟩ : Hf)).isSome])) w) : o.wp Try.prog a w C Q := o_lookupOk key_half (k := (⟨n, p⟩ : Hf)) (zv := (⟨0, false⟩ : Hf)) ho hx hy H hm und_nxt zero_nxt hk
theorem q_nxtGet {lf : List Res} {Kq : Act → Prop} (ho : o.op = .lookup 87 x y false) (hx : a.eval x = .map (some b)) (hy : a.eval y = .agg #[.int .i64 n, .bool p]) (hm : mNxt b m ∈ lf)
    (hk : Kq (a.put o.dst (hV ((m (⟨n, p⟩ : Hf)).getD (⟨0, false⟩ : Hf))))) : o.quiet Try.prog a (Keeps B w0 lf) Kq := q_lookup key_half (k := (⟨n, p⟩ : Hf)) (zv := (⟨0, false⟩ : Hf)) ho hx hy hm und_nxt zero_nxt hk
theorem q_nxtOk {lf : List Res} {Kq : Act → Prop} (ho : o.op = .lookup 87 x y true) (hx : a.eval x = .map (some b)) (hy : a.eval y = .agg #[.int .i64 n, .bool p]) (hm : mNxt b m ∈ lf)
    (hk : Kq (a.put o.dst (.tuple #[hV ((m (⟨n, p⟩ : Hf)).getD (⟨0, false⟩ : Hf)), .bool (m (⟨n, p⟩ : Hf)).isSome]))) : o.quiet Try.prog a (Keeps B w0 lf) Kq := q_lookupOk key_half (k := (⟨n, p⟩ : Hf)) (zv := (⟨0, false⟩ : Hf)) ho hx hy hm und_nxt zero_nxt hk
theorem o_nxtSet {l0 : (Hf → Option Hf) → List Res} {v : Int} {q : Bool} (ho : o.op = .mapUpdate 87 x y z) (hx : a.eval x = .map (some b)) (hy : a.eval y = .agg #[.int .i64 n, .bool p]) (hz : a.eval z = .agg #[.int .i64 v, .bool q]) (H : Own B w0 w l)
    (hrep : ∀ m', Rep (mNxt b m) (mNxt b m') l (l0 m')) (hk : ∀ w', Own B w0 w' (l0 (upd m (⟨n, p⟩ : Hf) (⟨v, q⟩ : Hf))) → C (a.put o.dst undef) w') : o.wp Try.prog a w C Q := o_mapUpdate key_half (k := (⟨n, p⟩ : Hf)) (v := (⟨v, q⟩ : Hf)) ho hx hy hz H hrep und_nxt hk
end
abbrev mWet (b : Nat) (m : Hf → Option Bool) : Res := mapR hV Value.bool b m
section
variable {o : Oper} {a : Act} {w w0 : World} {B : Nat} {l : List Res} {Q : Exit → Act → World → Prop} {x y z : Operand} {b : Nat} {C : Act → World → Prop} {m : Hf → Option Bool} {n : Int} {p : Bool}
theorem und_wet : Try.prog.underlying 91 = some (.map 36 4) := by kernel_rfl
theorem zero_wet (w : World) : (zeroValue 4).run Try.prog w = .ok (Value.bool false) w := by kernel_rfl
theorem o_wetMake (ho : o.op = .makeMap 91 none) (H : Own B w0 w l) (hk : ∀ w' b, Ext w w' → Own B w0 w' (mWet b (fun _ => none) :: l) → C (a.put o.dst (.map (some b))) w') : o.wp Try.prog a w C Q := o_makeMap _ _ ho H hk
theorem o_wetGet (ho : o.op = .lookup 91 x y false) (hx : a.eval x = .map (some b)) (hy : a.eval y = .agg #[.int .i64 n, .bool p]) (H : Own B w0 w l) (hm : mWet b m ∈ l)
    (hk : C (a.put o.dst (.bool ((m (⟨n, p⟩ : Hf)).getD false))) w) : o.wp Try.prog a w C Q := o_lookup key_half (k := (⟨n, p⟩ : Hf)) (zv := false) ho hx hy H hm und_wet zero_wet hk
theorem o_wetOk (ho : o.op = .lookup 91 x y true) (hx : a.eval x = .map (some b)) (hy : a.eval y = .agg #[.int .i64 n, .bool p]) (H : Own B w0 w l) (hm : mWet b m ∈ l)
    (hk : C (a.put o.dst (.tuple #[.bool ((m (⟨n, p⟩ : Hf)).getD false), .bool (m (⟨n, p⟩ : Hf)).isSome])) w) : o.wp Try.prog a w C Q := o_lookupOk key_half (k := (⟨n, p⟩ : Hf)) (zv := false) ho hx hy H hm und_wet zero_wet hk
theorem q_wetGet {lf : List Res} {Kq : Act → Prop} (ho : o.op = .lookup 91 x y false) (hx : a.eval x = .map (some b)) (hy : a.eval y = .agg #[.int .i64 n, .bool p]) (hm : mWet b m ∈ lf)
    (hk : Kq (a.put o.dst (.bool ((m (⟨n, p⟩ : Hf)).getD false)))) : o.quiet Try.prog a (Keeps B w0 lf) Kq := q_lookup key_half (k := (⟨n, p⟩ : Hf)) (zv := false) ho hx hy hm und_wet zero_wet hk
theorem q_wetOk {lf : List Res} {Kq : Act → Prop} (ho : o.op = .lookup 91 x y true) (hx : a.eval x = .map (some b)) (hy : a.eval y = .agg #[.int .i64 n, .bool p]) (hm : mWet b m ∈ lf)
    (hk : Kq (a.put o.dst (.tuple #[.bool ((m (⟨n, p⟩ : Hf)).getD false), .bool (m (⟨n, p⟩ : Hf)).isSome]))) : o.quiet Try.prog a (Keeps B w0 lf) Kq := q_lookupOk key_half (k := (⟨n, p⟩ : Hf)) (zv := false) ho hx hy hm und_wet zero_wet hk
theorem o_wetSet {l0 : (Hf → Option Bool) → List Res} {v : Bool} (ho : o.op = .mapUpdate 91 x y z) (hx : a.eval x = .map (some b)) (hy : a.eval y = .agg #[.int .i64 n, .bool p]) (hz : a.eval z = .bool v) (H : Own B w0 w l)
    (hrep : ∀ m', Rep (mWet b m) (mWet b m') l (l0 m')) (hk : ∀ w', Own B w0 w' (l0 (upd m (⟨n, p⟩ : Hf) v)) → C (a.put o.dst undef) w') : o.wp Try.prog a w C Q := o_mapUpdate key_half (k := (⟨n, p⟩ : Hf)) (v := v) ho hx hy hz H hrep und_wet hk
end
abbrev slZ : Value := .slice none 0 0
abbrev mOut (b : Nat) (m : List (Int × Value)) : Res := mapA (Value.int .i64) (fun v : Value => v) b m
abbrev iOut (b r : Nat) (m left : List (Int × Value)) (cur : Option (Int × Value)) : Res := itA (Value.int .i64) (fun v : Value => v) b r m left cur
section
variable {o : Oper} {a : Act} {w w0 : World} {B : Nat} {l : List Res} {Q : Exit → Act → World → Prop} {x y z : Operand} {b r : Nat} {C : Act → World → Prop} {m left : List (Int × Value)} {n : Int} {cur : Option (Int × Value)}
theorem und_out : Try.prog.underlying 86 = some (.map 3 34) := by kernel_rfl
theorem zero_out (w : World) : (zeroValue 34).run Try.prog w = .ok slZ w := by kernel_rfl
theorem o_outMake (ho : o.op = .makeMap 86 none) (H : Own B w0 w l) (hk : ∀ w' b, Ext w w' → Own B w0 w' (mOut b [] :: l) → C (a.put o.dst (.map (some b))) w') : o.wp Try.prog a w C Q := o_makeA _ _ ho H hk
theorem o_outGet (ho : o.op = .lookup 86 x y false) (hx : a.eval x = .map (some b)) (hy : a.eval y = .int .i64 n) (H : Own B w0 w l) (hm : mOut b m ∈ l)
    (hk : C (a.put o.dst ((getA m n).getD slZ)) w) : o.wp Try.prog a w C Q := o_getA key_int (k := n) (zv := slZ) ho hx hy H hm und_out zero_out hk
theorem o_outOk (ho : o.op = .lookup 86 x y true) (hx : a.eval x = .map (some b)) (hy : a.eval y = .int .i64 n) (H : Own B w0 w l) (hm : mOut b m ∈ l)
    (hk : C (a.put o.dst (.tuple #[(getA m n).getD slZ, .bool (getA m n).isSome])) w) : o.wp Try.prog a w C Q := o_okA key_int (k := n) (zv := slZ) ho hx hy H hm und_out zero_out hk
theorem q_outGet {lf : List Res} {Kq : Act → Prop} (ho : o.op = .lookup 86 x y false) (hx : a.eval x = .map (some b)) (hy : a.eval y = .int .i64 n) (hm : mOut b m ∈ lf)
    (hk : Kq (a.put o.dst ((getA m n).getD slZ))) : o.quiet Try.prog a (Keeps B w0 lf) Kq := q_getA key_int (k := n) (zv := slZ) ho hx hy hm und_out zero_out hk
theorem q_outOk {lf : List Res} {Kq : Act → Prop} (ho : o.op = .lookup 86 x y true) (hx : a.eval x = .map (some b)) (hy : a.eval y = .int .i64 n) (hm : mOut b m ∈ lf)
    (hk : Kq (a.put o.dst (.tuple #[(getA m n).getD slZ, .bool (getA m n).isSome]))) : o.quiet Try.prog a (Keeps B w0 lf) Kq := q_okA key_int (k := n) (zv := slZ) ho hx hy hm und_out zero_out hk
theorem o_outSet {l0 : List (Int × Value) → List Res} {v : Value} (ho : o.op = .mapUpdate 86 x y z) (hx : a.eval x = .map (some b)) (hy : a.eval y = .int .i64 n) (hz : a.eval z = v) (H : Own B w0 w l)
    (hrep : ∀ m', Rep (mOut b m) (mOut b m') l (l0 m')) (hk : ∀ w', Own B w0 w' (l0 ((n, v) :: cutA m n)) → C (a.put o.dst undef) w') : o.wp Try.prog a w C Q := o_setA key_int (k := n) (v := v) ho hx hy hz H hrep und_out hk
theorem o_outRange (ho : o.op = .range 86 x) (hx : a.eval x = .map (some b)) (H : Own B w0 w l) {l0 : Nat → List Res} (hrep : ∀ r, Rep (mOut b m) (iOut b r m m none) l (l0 r))
    (hk : ∀ w' r, Own B w0 w' (l0 r) → C (a.put o.dst (.pointer (some ⟨r, 0, none⟩))) w') : o.wp Try.prog a w C Q := o_range ho hx und_out H l0 hrep hk
theorem o_outNext (ho : o.op = .next x false) (hx : a.eval x = .pointer (some ⟨r, 0, none⟩)) (H : Own B w0 w l) {l0 : List (Int × Value) → Option (Int × Value) → List Res} (hrep : ∀ left' cur', Rep (iOut b r m left cur) (iOut b r m left' cur') l (l0 left' cur'))
    (hDone : left = [] → ∀ w', Own B w0 w' l → C (a.put o.dst (.tuple #[.bool false])) w')
    (hMore : ∀ k q left' w', left.Perm ((k, q) :: left') → Own B w0 w' (l0 left' (some (k, q))) → C (a.put o.dst (.tuple #[.bool true, .int .i64 k, q])) w') : o.wp Try.prog a w C Q := o_next ho hx H l0 hrep hDone hMore
theorem o_outEntry {k : Int} {q : Value} (ho : o.op = .entry x) (hx : a.eval x = .pointer (some ⟨r, 0, none⟩)) (H : Own B w0 w l) (hm : iOut b r m left (some (k, q)) ∈ l) (hk : C (a.put o.dst (.tuple #[.int .i64 k, q])) w) : o.wp Try.prog a w C Q := o_entry ho hx H hm hk
end
end Go.Proofs.Ytlhmjhildlnokaa
