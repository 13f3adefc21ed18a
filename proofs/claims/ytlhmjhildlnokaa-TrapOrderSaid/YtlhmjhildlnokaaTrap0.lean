/-
  The index of trapezes: what stands in its lists and maps, as cells; the laws on its maps.
-/
import Derived.Test.YtlhmjhildlnokaaPlan3
import Derived.Test.YtlhmjhildlnokaaOwnA
import Derived.Test.YtlhmjhildlnokaaOwnE
import Derived.Test.YtlhmjhildlnokaaOwnG
import Derived.Test.YtlhmjhildlnokaaOwn6
namespace Go.Proofs.Ytlhmjhildlnokaa
set_option linter.unusedVariables false
set_option linter.unusedSimpArgs false
open Go.RowKit

/-! ### Lists of things of k cells -/
theorem flatN_len {α : Type} {f : α → List Value} {k : Nat} (hf : ∀ a, (f a).length = k) : ∀ (l : List α), (l.flatMap f).length = l.length * k
  | [] => by simp
  | a :: l => by rw [List.flatMap_cons, List.length_append, hf, flatN_len hf l, List.length_cons, Nat.add_mul, Nat.one_mul, Nat.add_comm]
theorem flatN_at {α : Type} {f : α → List Value} {k : Nat} (hf : ∀ a, (f a).length = k) : ∀ (l : List α) (i : Nat) (a : α), l[i]? = some a → ((l.flatMap f).drop (i * k)).take k = f a
  | [], i, a, h => by simp at h
  | b :: l, 0, a, h => by
    obtain rfl : b = a := by simpa using h
    rw [Nat.zero_mul, List.drop_zero, List.flatMap_cons, List.take_append_of_le_length (by rw [hf]; exact Nat.le_refl _), List.take_of_length_le (by rw [hf]; exact Nat.le_refl _)]
  | b :: l, i + 1, a, h => by
    have := flatN_at hf l i a (by simpa using h)
    rw [Nat.add_mul, Nat.one_mul, Nat.add_comm, List.flatMap_cons, ← List.drop_drop]
    have e : List.drop k (f b ++ l.flatMap f) = l.flatMap f := by
      have := hf b
      rw [List.drop_append_of_le_length (by omega), List.drop_of_length_le (by omega), List.nil_append]
    rw [e]
    exact this
theorem flatN_sub {α : Type} {f : α → List Value} {k : Nat} (hf : ∀ a, (f a).length = k) {l : List α} {i : Nat} {a : α} (h : l[i]? = some a) (d m : Nat) (hd : d + m ≤ k) : ((l.flatMap f).drop (i * k + d)).take m = ((f a).drop d).take m := by
  have := flatN_at hf l i a h
  rw [← List.drop_drop, ← this, List.drop_take, List.take_take, Nat.min_eq_left (by omega)]
theorem setL_app (r : List Value) : ∀ (vs row : List Value) (o : Nat), o + vs.length ≤ row.length → setL (row ++ r) o vs = setL row o vs ++ r
  | [], row, o, _ => rfl
  | v :: vs, row, o, h => by
    simp only [List.length_cons] at h
    rw [setL, setL, List.set_append_left _ _ (by omega), setL_app r vs (row.set o v) (o + 1) (by rw [List.length_set]; omega)]
theorem setL_ahead (r : List Value) : ∀ (vs row : List Value) (o : Nat), setL (r ++ row) (r.length + o) vs = r ++ setL row o vs
  | [], row, o => rfl
  | v :: vs, row, o => by
    rw [setL, setL, List.set_append_right _ _ (by omega), Nat.add_sub_cancel_left, Nat.add_assoc, setL_ahead r vs]
theorem flatN_set {α : Type} {f : α → List Value} {k : Nat} (hf : ∀ a, (f a).length = k) {d : Nat} {vs : List Value} {a a' : α} (hd : d + vs.length ≤ k) (hv : setL (f a) d vs = f a') : ∀ (l : List α) (i : Nat), l[i]? = some a → setL (l.flatMap f) (i * k + d) vs = (l.set i a').flatMap f
  | [], i, h => by simp at h
  | b :: l, 0, h => by
    obtain rfl : b = a := by simpa using h
    rw [Nat.zero_mul, Nat.zero_add, List.flatMap_cons, setL_app _ _ _ _ (by rw [hf]; exact hd), hv]; rfl
  | b :: l, i + 1, h => by
    have := flatN_set hf hd hv l i (by simpa using h)
    rw [List.flatMap_cons, Nat.add_mul, Nat.one_mul, Nat.add_comm (i * k), Nat.add_assoc]
    have e := setL_ahead (f b) vs (l.flatMap f) (i * k + d)
    rw [hf] at e
    rw [e, this]; rfl

/-! ### Trapezes, pieces, questions, lines -/
structure Tz where
  top : Int
  bot : Int
  hl : Bool
  hr : Bool
  l : Pt
  r : Pt
deriving DecidableEq
structure Pc where
  t : Tz
  n : Int
  g : Bool
structure Nd where
  k : Int
  id : Int
  p : Pt
  a : Int
  b : Int
structure Sg where
  a : Pt
  b : Pt
deriving DecidableEq
def tz8 (t : Tz) : List Value := [.int .i64 t.top, .int .i64 t.bot, .bool t.hl, .bool t.hr, .int .i64 t.l.x, .int .i64 t.l.y, .int .i64 t.r.x, .int .i64 t.r.y]
def pc10 (p : Pc) : List Value := [.int .i64 p.t.top, .int .i64 p.t.bot, .bool p.t.hl, .bool p.t.hr, .int .i64 p.t.l.x, .int .i64 p.t.l.y, .int .i64 p.t.r.x, .int .i64 p.t.r.y, .int .i64 p.n, .bool p.g]
def nd6 (q : Nd) : List Value := [.int .i64 q.k, .int .i64 q.id, .int .i64 q.p.x, .int .i64 q.p.y, .int .i64 q.a, .int .i64 q.b]
def sg4 (s : Sg) : List Value := [.int .i64 s.a.x, .int .i64 s.a.y, .int .i64 s.b.x, .int .i64 s.b.y]
abbrev sgV (s : Sg) : Value := .agg #[.int .i64 s.a.x, .int .i64 s.a.y, .int .i64 s.b.x, .int .i64 s.b.y]
abbrev tzV (t : Tz) : Value := .agg #[.int .i64 t.top, .int .i64 t.bot, .bool t.hl, .bool t.hr, .int .i64 t.l.x, .int .i64 t.l.y, .int .i64 t.r.x, .int .i64 t.r.y]
abbrev ndV (q : Nd) : Value := .agg #[.int .i64 q.k, .int .i64 q.id, .int .i64 q.p.x, .int .i64 q.p.y, .int .i64 q.a, .int .i64 q.b]
def tR (l : List Tz) : List Value := l.flatMap tz8
def pR (l : List Pc) : List Value := l.flatMap pc10
def nR (l : List Nd) : List Value := l.flatMap nd6
theorem tR_len (l : List Tz) : (tR l).length = l.length * 8 := flatN_len (f := tz8) (fun _ => rfl) l
theorem pR_len (l : List Pc) : (pR l).length = l.length * 10 := flatN_len (f := pc10) (fun _ => rfl) l
theorem nR_len (l : List Nd) : (nR l).length = l.length * 6 := flatN_len (f := nd6) (fun _ => rfl) l
theorem pR_app (l m : List Pc) : pR (l ++ m) = pR l ++ pR m := by simp [pR]
theorem nR_app (l m : List Nd) : nR (l ++ m) = nR l ++ nR m := by simp [nR]
theorem tR_app (l m : List Tz) : tR (l ++ m) = tR l ++ tR m := by simp [tR]
theorem infoIt : (Try.prog.info? 3).map (fun i => (i.zero, i.size, i.bytes)) = some (some (.int .i64 0), 1, 8) := by kernel_rfl
theorem infoNd : (Try.prog.info? 127).map (fun i => (i.zero, i.size, i.bytes)) = some (some (.agg #[.int .i64 0, .int .i64 0, .int .i64 0, .int .i64 0, .int .i64 0, .int .i64 0]), 6, 48) := by kernel_rfl
theorem infoPc : (Try.prog.info? 121).map (fun i => (i.zero, i.size, i.bytes)) = some (some (.agg #[.int .i64 0, .int .i64 0, .bool false, .bool false, .int .i64 0, .int .i64 0, .int .i64 0, .int .i64 0, .int .i64 0, .bool false]), 10, 72) := by kernel_rfl
theorem infoTz : (Try.prog.info? 73).map (fun i => (i.zero, i.size, i.bytes)) = some (some (.agg #[.int .i64 0, .int .i64 0, .bool false, .bool false, .int .i64 0, .int .i64 0, .int .i64 0, .int .i64 0]), 8, 56) := by kernel_rfl

/-! ### The map of lines -/
abbrev mSeg (b : Nat) (m : List (Int × Sg)) : Res := mapA (Value.int .i64) sgV b m
def zSg : Sg := ⟨⟨0, 0⟩, ⟨0, 0⟩⟩
section
variable {o : Oper} {a : Act} {w w0 : World} {B : Nat} {l : List Res} {Q : Exit → Act → World → Prop} {x y z : Operand} {b r : Nat} {C : Act → World → Prop} {m : List (Int × Sg)} {n : Int}
theorem und_seg : Try.prog.underlying 115 = some (.map 3 111) := by kernel_rfl
theorem zero_seg (w : World) : (zeroValue 111).run Try.prog w = .ok (sgV zSg) w := by kernel_rfl
theorem und_intT : Try.prog.underlying 3 = some (.int .i64) := by kernel_rfl
theorem key_intT : KeyOK Try.prog 3 (Value.int .i64) where
  check e k w := by
    have : ∀ n, (Instr.checkKey e (n + 1) 3 (Value.int .i64 k)).run Try.prog w = .ok () w := fun n => by simp [Instr.checkKey, und_intT]
    exact this 9999
  same k := by simp [Instr.sameBits]
  find := ⟨.int .i64, by kernel_rfl, .inl fun k k' => by simp [Instr.sameNow]; rw [Bool.eq_iff_iff]; simp⟩
theorem o_segMake (ho : o.op = .makeMap 115 none) (H : Own B w0 w l) (hk : ∀ w' b, Ext w w' → Own B w0 w' (mSeg b [] :: l) → C (a.put o.dst (.map (some b))) w') : o.wp Try.prog a w C Q := o_makeA _ _ ho H hk
theorem o_segGet (ho : o.op = .lookup 115 x y false) (hx : a.eval x = .map (some b)) (hy : a.eval y = .int .i64 n) (H : Own B w0 w l) (hm : mSeg b m ∈ l)
    (hk : C (a.put o.dst (sgV ((getA m n).getD zSg))) w) : o.wp Try.prog a w C Q := o_getA key_intT (k := n) (zv := zSg) ho hx hy H hm und_seg zero_seg hk
theorem o_segOk (ho : o.op = .lookup 115 x y true) (hx : a.eval x = .map (some b)) (hy : a.eval y = .int .i64 n) (H : Own B w0 w l) (hm : mSeg b m ∈ l)
    (hk : C (a.put o.dst (.tuple #[sgV ((getA m n).getD zSg), .bool (getA m n).isSome])) w) : o.wp Try.prog a w C Q := o_okA key_intT (k := n) (zv := zSg) ho hx hy H hm und_seg zero_seg hk
theorem q_segGet {lf : List Res} {Kq : Act → Prop} (ho : o.op = .lookup 115 x y false) (hx : a.eval x = .map (some b)) (hy : a.eval y = .int .i64 n) (hm : mSeg b m ∈ lf)
    (hk : Kq (a.put o.dst (sgV ((getA m n).getD zSg)))) : o.quiet Try.prog a (Keeps B w0 lf) Kq := q_getA key_intT (k := n) (zv := zSg) ho hx hy hm und_seg zero_seg hk
theorem q_segOk {lf : List Res} {Kq : Act → Prop} (ho : o.op = .lookup 115 x y true) (hx : a.eval x = .map (some b)) (hy : a.eval y = .int .i64 n) (hm : mSeg b m ∈ lf)
    (hk : Kq (a.put o.dst (.tuple #[sgV ((getA m n).getD zSg), .bool (getA m n).isSome]))) : o.quiet Try.prog a (Keeps B w0 lf) Kq := q_okA key_intT (k := n) (zv := zSg) ho hx hy hm und_seg zero_seg hk
theorem o_segSet {l0 : List (Int × Sg) → List Res} {x1 y1 x2 y2 : Int} (ho : o.op = .mapUpdate 115 x y z) (hx : a.eval x = .map (some b)) (hy : a.eval y = .int .i64 n) (hz : a.eval z = .agg #[.int .i64 x1, .int .i64 y1, .int .i64 x2, .int .i64 y2]) (H : Own B w0 w l)
    (hrep : ∀ m', Rep (mSeg b m) (mSeg b m') l (l0 m')) (hk : ∀ w', Own B w0 w' (l0 ((n, ⟨⟨x1, y1⟩, ⟨x2, y2⟩⟩) :: cutA m n)) → C (a.put o.dst undef) w') : o.wp Try.prog a w C Q := o_setA key_intT (k := n) (v := ⟨⟨x1, y1⟩, ⟨x2, y2⟩⟩) ho hx hy hz H hrep und_seg hk
theorem o_segLen {t0 : TypeId} {d : Option Tmp} {ps : String} {af : Array Edge} {g : Option (Nat × Bool)} (hx : a.eval x = .map (some b)) (H : Own B w0 w l) (hm : mSeg b m ∈ l) (hk : C (a.put d (.int .i64 (m.length : Int))) w) :
    (Oper.mk d (.call { callee := .builtin .len, args := #[x], argTypes := #[115] }) t0 ps af g).wp Try.prog a w C Q := o_lenA hx H hm und_seg rfl hk
end
/-! ### The map of ends -/
abbrev mEnd (b : Nat) (m : List (Pt × Bool)) : Res := mapA kP Value.bool b m
abbrev sEnd (b : Nat) (m : List (Pt × Bool)) (k : Pt) (st : Int) : Res := mapSt kP Value.bool b m k st
section
variable {o : Oper} {a : Act} {w w0 : World} {B : Nat} {l : List Res} {Q : Exit → Act → World → Prop} {x y z : Operand} {b r : Nat} {C : Act → World → Prop} {m : List (Pt × Bool)} {n p : Int}
theorem o_endMake (ho : o.op = .makeMap 99 none) (H : Own B w0 w l) (hk : ∀ w' b, Ext w w' → Own B w0 w' (mEnd b [] :: l) → C (a.put o.dst (.map (some b))) w') : o.wp Try.prog a w C Q := o_makeA _ _ ho H hk
theorem o_endGet (ho : o.op = .lookup 99 x y false) (hx : a.eval x = .map (some b)) (hy : a.eval y = pV n p) (H : Own B w0 w l) (hm : mEnd b m ∈ l)
    (hk : C (a.put o.dst (.bool ((getA m ⟨n, p⟩).getD false))) w) : o.wp Try.prog a w C Q := o_getA key_pt (k := (⟨n, p⟩ : Pt)) (zv := false) ho hx hy H hm und_met zero_bool hk
theorem q_endGet {lf : List Res} {Kq : Act → Prop} (ho : o.op = .lookup 99 x y false) (hx : a.eval x = .map (some b)) (hy : a.eval y = pV n p) (hm : mEnd b m ∈ lf)
    (hk : Kq (a.put o.dst (.bool ((getA m ⟨n, p⟩).getD false)))) : o.quiet Try.prog a (Keeps B w0 lf) Kq := q_getA key_pt (k := (⟨n, p⟩ : Pt)) (zv := false) ho hx hy hm und_met zero_bool hk
theorem o_endEnt {l0 : List (Pt × Bool) → Int → List Res} (ho : o.op = .mapEntry 99 x y) (hx : a.eval x = .map (some b)) (hy : a.eval y = pV n p) (H : Own B w0 w l)
    (hrep : ∀ m' st, Rep (mEnd b m) (sEnd b m' ⟨n, p⟩ st) l (l0 m' st)) (hk : ∀ w' v0 st, Own B w0 w' (l0 ((⟨n, p⟩, (getA m ⟨n, p⟩).getD false) :: cutA m ⟨n, p⟩) st) → C (a.put o.dst (.tuple #[v0, .int .i64 st])) w') : o.wp Try.prog a w C Q :=
  o_entA key_pt (k := (⟨n, p⟩ : Pt)) (zv := false) ho hx hy H (fun st => hrep _ st) und_met zero_bool hk
theorem o_endPut {l0 : List (Pt × Bool) → List Res} {st : Int} {k : Pt} {v : Bool} (ho : o.op = .entryStore 99 x y z) (hx : a.eval x = .map (some b)) (hy : a.eval y = .int .i64 st) (hv : a.eval z = .bool v) (H : Own B w0 w l)
    (hrep : ∀ m', Rep (sEnd b m k st) (mEnd b m') l (l0 m')) (hk : ∀ w', Own B w0 w' (l0 ((k, v) :: cutA m k)) → C (a.put o.dst undef) w') : o.wp Try.prog a w C Q :=
  o_putA (k := k) (v := v) ho hx hy hv H (hrep _) hk
end
end Go.Proofs.Ytlhmjhildlnokaa
