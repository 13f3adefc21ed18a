/-
  The records' map: its keys, and the laws on what is done with it.
-/
import Derived.Test.YtbpclhgbobiahaaOwnL
import Derived.Test.YtbpclhgbobiahaaEqS
import Derived.Test.YtbpclhgbobiahaaRows
import Derived.Test.YtbpclhgbobiahaaBase
namespace Go.Proofs.Ytbpclhgbobiahaa
set_option linter.unusedVariables false
set_option linter.unusedSimpArgs false
open Go.RowKit

structure K2 where
  x : Int
  y : Int
deriving DecidableEq
abbrev kV (k : K2) : Value := .agg #[.int .i64 k.x, .int .i64 k.y]
theorem k2_eq (k k' : K2) : (decide (k.x = k'.x) && decide (k.y = k'.y)) = decide (k = k') := by
  obtain ⟨a, b⟩ := k
  obtain ⟨c, d⟩ := k'
  rw [Bool.eq_iff_iff]; simp
theorem und_int0 : Try.prog.underlying 3 = some (.int .i64) := by kernel_rfl
theorem size_int0 (w : World) : (sizeOf 3).run Try.prog w = .ok 1 w := by kernel_rfl
theorem agg_int0 (w : World) : (isAgg 3).run Try.prog w = .ok false w := by kernel_rfl
theorem eq_int0 (k : Nat) (a b : Int) (w : World) : (Op.equalIn (k + 1) 3 (.int .i64 a) (.int .i64 b)).run Try.prog w = .ok (decide (a = b)) w := by
  simp [Op.equalIn, go_sem, und_int0]
  rw [Bool.eq_iff_iff]; simp
theorem eqK_in (k k' : K2) (w : World) : (Op.equalIn 10000 40 (kV k) (kV k')).run Try.prog w = .ok (decide (k = k')) w := by
  have h := eqS_in (P := Try.prog) (d := 9999) (T := 40) (xs := #[.int .i64 k.x, .int .i64 k.y]) (ys := #[.int .i64 k'.x, .int .i64 k'.y])
    [⟨3, 0, .int .i64 k.x, .int .i64 k'.x, decide (k.x = k'.x)⟩, ⟨3, 1, .int .i64 k.y, .int .i64 k'.y, decide (k.y = k'.y)⟩] (by kernel_rfl) (by kernel_rfl) (by kernel_rfl) (fun f hf => by
      simp only [List.mem_cons, List.not_mem_nil, or_false] at hf
      rcases hf with rfl | rfl
      · exact ⟨part_cell agg_int0 rfl, part_cell agg_int0 rfl, eq_int0 9998 _ _⟩
      · exact ⟨part_cell agg_int0 rfl, part_cell agg_int0 rfl, eq_int0 9998 _ _⟩) w
  rw [← k2_eq]
  simpa using h
theorem key_rec : KeyOK Try.prog 40 kV where
  check e k w := by
    have hu : Try.prog.underlying 40 = some (.struct (Try.prog.fieldsOf 40)) := by kernel_rfl
    have hf : (Try.prog.fieldsOf 40).toList.map (fun f => (f.name == "_", f.type, f.offset)) = [(false, 3, 0), (false, 3, 1)] := by kernel_rfl
    have : ∀ n, (Instr.checkKey e (n + 1 + 1) 40 (kV k)).run Try.prog w = .ok () w := fun n => by
      unfold Instr.checkKey
      simp only [Sem.run_bind, run_underlying hu, Result.andThen_ok]
      revert hf
      generalize Try.prog.fieldsOf 40 = l
      obtain ⟨l⟩ := l
      intro hf
      match l, hf with
      | [], hf => simp at hf
      | [_], hf => simp at hf
      | _ :: _ :: _ :: _, hf => simp at hf
      | [f, g], hf =>
        simp at hf
        obtain ⟨⟨f1, f2, f3⟩, g1, g2, g3⟩ := hf
        have p1 := fun w => part_cell (P := Try.prog) (T := 3) (cs := #[.int .i64 k.x, .int .i64 k.y]) (i := 0) agg_int0 rfl w
        have p2 := fun w => part_cell (P := Try.prog) (T := 3) (cs := #[.int .i64 k.x, .int .i64 k.y]) (i := 1) agg_int0 rfl w
        simp [f1, f2, f3, g1, g2, g3, p1, p2, Instr.checkKey, und_int0]
    exact this 9998
  same k := by
    have : ∀ n, Instr.sameBits (n + 1) (kV k) (kV k) = true := fun n => by simp [Instr.sameBits]
    exact this 9999
  find := ⟨.struct (Try.prog.fieldsOf 40), by kernel_rfl, .inr ⟨fun k v => by simp [Instr.sameNow], fun k k' w => eqK_in k k' w⟩⟩
abbrev mRec (b : Nat) (m : List (K2 × ByteArray)) : Res := mapA kV Value.string b m
section
variable {o : Oper} {a : Act} {w w0 : World} {B : Nat} {l : List Res} {Q : Exit → Act → World → Prop} {x y z : Operand} {b : Nat} {C : Act → World → Prop} {m : List (K2 × ByteArray)} {n p : Int}
theorem und_rec : Try.prog.underlying 26 = some (.map 40 9) := by kernel_rfl
theorem zero_str (w : World) : (zeroValue 9).run Try.prog w = .ok (.string ⟨#[]⟩) w := by kernel_rfl
theorem o_recMake (ho : o.op = .makeMap 26 none) (H : Own B w0 w l) (hk : ∀ w' b, Ext w w' → Own B w0 w' (mRec b [] :: l) → C (a.put o.dst (.map (some b))) w') : o.wp Try.prog a w C Q := o_makeA _ _ ho H hk
theorem o_recGet (ho : o.op = .lookup 26 x y false) (hx : a.eval x = .map (some b)) (hy : a.eval y = .agg #[.int .i64 n, .int .i64 p]) (H : Own B w0 w l) (hm : mRec b m ∈ l)
    (hk : C (a.put o.dst (.string ((getA m ⟨n, p⟩).getD ⟨#[]⟩))) w) : o.wp Try.prog a w C Q := o_getA key_rec (k := ⟨n, p⟩) (zv := ⟨#[]⟩) ho hx hy H hm und_rec zero_str hk
theorem o_recOk (ho : o.op = .lookup 26 x y true) (hx : a.eval x = .map (some b)) (hy : a.eval y = .agg #[.int .i64 n, .int .i64 p]) (H : Own B w0 w l) (hm : mRec b m ∈ l)
    (hk : C (a.put o.dst (.tuple #[.string ((getA m ⟨n, p⟩).getD ⟨#[]⟩), .bool (getA m ⟨n, p⟩).isSome])) w) : o.wp Try.prog a w C Q := o_okA key_rec (k := ⟨n, p⟩) (zv := ⟨#[]⟩) ho hx hy H hm und_rec zero_str hk
theorem q_recGet {lf : List Res} {Kq : Act → Prop} (ho : o.op = .lookup 26 x y false) (hx : a.eval x = .map (some b)) (hy : a.eval y = .agg #[.int .i64 n, .int .i64 p]) (hm : mRec b m ∈ lf)
    (hk : Kq (a.put o.dst (.string ((getA m ⟨n, p⟩).getD ⟨#[]⟩)))) : o.quiet Try.prog a (Keeps B w0 lf) Kq := q_getA key_rec (k := ⟨n, p⟩) (zv := ⟨#[]⟩) ho hx hy hm und_rec zero_str hk
theorem q_recOk {lf : List Res} {Kq : Act → Prop} (ho : o.op = .lookup 26 x y true) (hx : a.eval x = .map (some b)) (hy : a.eval y = .agg #[.int .i64 n, .int .i64 p]) (hm : mRec b m ∈ lf)
    (hk : Kq (a.put o.dst (.tuple #[.string ((getA m ⟨n, p⟩).getD ⟨#[]⟩), .bool (getA m ⟨n, p⟩).isSome]))) : o.quiet Try.prog a (Keeps B w0 lf) Kq := q_okA key_rec (k := ⟨n, p⟩) (zv := ⟨#[]⟩) ho hx hy hm und_rec zero_str hk
theorem o_recSet {l0 : List (K2 × ByteArray) → List Res} {s : ByteArray} (ho : o.op = .mapUpdate 26 x y z) (hx : a.eval x = .map (some b)) (hy : a.eval y = .agg #[.int .i64 n, .int .i64 p]) (hz : a.eval z = .string s) (H : Own B w0 w l)
    (hrep : ∀ m', Rep (mRec b m) (mRec b m') l (l0 m')) (hk : ∀ w', Own B w0 w' (l0 ((⟨n, p⟩, s) :: cutA m ⟨n, p⟩)) → C (a.put o.dst undef) w') : o.wp Try.prog a w C Q := o_setA key_rec (k := ⟨n, p⟩) (v := s) ho hx hy hz H hrep und_rec hk
theorem o_recLen {t0 : TypeId} {d : Option Tmp} {ps : String} {af : Array Edge} {g : Option (Nat × Bool)} (hx : a.eval x = .map (some b)) (H : Own B w0 w l) (hm : mRec b m ∈ l) (hk : C (a.put d (.int .i64 (m.length : Int))) w) :
    (Oper.mk d (.call { callee := .builtin .len, args := #[x], argTypes := #[26] }) t0 ps af g).wp Try.prog a w C Q := o_lenA hx H hm und_rec rfl hk
end
end Go.Proofs.Ytbpclhgbobiahaa
