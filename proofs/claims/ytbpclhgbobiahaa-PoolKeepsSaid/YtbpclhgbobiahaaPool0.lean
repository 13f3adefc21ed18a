/-
  The pool's map and frames: the laws on what is done with them.
-/
import Derived.Test.YtbpclhgbobiahaaOwnL
import Derived.Test.YtbpclhgbobiahaaOwnI
import Derived.Test.YtbpclhgbobiahaaPack
import Derived.Test.YtbpclhgbobiahaaRows
import Derived.Test.YtbpclhgbobiahaaBase
namespace Go.Proofs.Ytbpclhgbobiahaa
set_option linter.unusedVariables false
set_option linter.unusedSimpArgs false
open Go.RowKit

/-- A frame: its number, its block, its text, dirty, pins, when it was used. -/
structure Fr where
  no : Int
  b : Nat
  s : ByteArray
  d : Bool
  p : Int
  u : Int
abbrev ent (f : Fr) : Int × Option Nat := (f.no, some f.b)
abbrev fB (f : Fr) : Res := .cells f.b [.string f.s, .bool f.d, .int .i64 f.p, .int .i64 f.u]
abbrev oPtr (o : Option Nat) : Value := .pointer (o.map fun b => ⟨b, 0, none⟩)
theorem und_intP : Try.prog.underlying 3 = some (.int .i64) := by kernel_rfl
theorem key_intP : KeyOK Try.prog 3 (Value.int .i64) where
  check e k w := by
    have : ∀ n, (Instr.checkKey e (n + 1) 3 (Value.int .i64 k)).run Try.prog w = .ok () w := fun n => by simp [Instr.checkKey, und_intP]
    exact this 9999
  same k := by simp [Instr.sameBits]
  find := ⟨.int .i64, by kernel_rfl, .inl fun k k' => by simp [Instr.sameNow]; rw [Bool.eq_iff_iff]; simp⟩
abbrev mPool (b : Nat) (m : List (Int × Option Nat)) : Res := mapA (Value.int .i64) oPtr b m
abbrev iPool (b r : Nat) (m left : List (Int × Option Nat)) (cur : Option (Int × Option Nat)) : Res := itA (Value.int .i64) oPtr b r m left cur
section
variable {o : Oper} {a : Act} {w w0 : World} {B : Nat} {l : List Res} {Q : Exit → Act → World → Prop} {x y z : Operand} {b r : Nat} {C : Act → World → Prop} {m left : List (Int × Option Nat)} {n : Int} {cur : Option (Int × Option Nat)}
theorem und_pool : Try.prog.underlying 94 = some (.map 3 97) := by kernel_rfl
theorem zero_pool (w : World) : (zeroValue 97).run Try.prog w = .ok (oPtr none) w := by kernel_rfl
theorem o_poolMake (ho : o.op = .makeMap 94 none) (H : Own B w0 w l) (hk : ∀ w' b, Ext w w' → Own B w0 w' (mPool b [] :: l) → C (a.put o.dst (.map (some b))) w') : o.wp Try.prog a w C Q := o_makeA _ _ ho H hk
theorem o_poolGet (ho : o.op = .lookup 94 x y false) (hx : a.eval x = .map (some b)) (hy : a.eval y = .int .i64 n) (H : Own B w0 w l) (hm : mPool b m ∈ l)
    (hk : C (a.put o.dst (oPtr ((getA m n).getD none))) w) : o.wp Try.prog a w C Q := o_getA key_intP (k := n) (zv := none) ho hx hy H hm und_pool zero_pool hk
theorem o_poolOk (ho : o.op = .lookup 94 x y true) (hx : a.eval x = .map (some b)) (hy : a.eval y = .int .i64 n) (H : Own B w0 w l) (hm : mPool b m ∈ l)
    (hk : C (a.put o.dst (.tuple #[oPtr ((getA m n).getD none), .bool (getA m n).isSome])) w) : o.wp Try.prog a w C Q := o_okA key_intP (k := n) (zv := none) ho hx hy H hm und_pool zero_pool hk
theorem q_poolGet {lf : List Res} {Kq : Act → Prop} (ho : o.op = .lookup 94 x y false) (hx : a.eval x = .map (some b)) (hy : a.eval y = .int .i64 n) (hm : mPool b m ∈ lf)
    (hk : Kq (a.put o.dst (oPtr ((getA m n).getD none)))) : o.quiet Try.prog a (Keeps B w0 lf) Kq := q_getA key_intP (k := n) (zv := none) ho hx hy hm und_pool zero_pool hk
theorem q_poolOk {lf : List Res} {Kq : Act → Prop} (ho : o.op = .lookup 94 x y true) (hx : a.eval x = .map (some b)) (hy : a.eval y = .int .i64 n) (hm : mPool b m ∈ lf)
    (hk : Kq (a.put o.dst (.tuple #[oPtr ((getA m n).getD none), .bool (getA m n).isSome]))) : o.quiet Try.prog a (Keeps B w0 lf) Kq := q_okA key_intP (k := n) (zv := none) ho hx hy hm und_pool zero_pool hk
theorem o_poolSet {l0 : List (Int × Option Nat) → List Res} {q : Nat} (ho : o.op = .mapUpdate 94 x y z) (hx : a.eval x = .map (some b)) (hy : a.eval y = .int .i64 n) (hz : a.eval z = .pointer (some ⟨q, 0, none⟩)) (H : Own B w0 w l)
    (hrep : ∀ m', Rep (mPool b m) (mPool b m') l (l0 m')) (hk : ∀ w', Own B w0 w' (l0 ((n, some q) :: cutA m n)) → C (a.put o.dst undef) w') : o.wp Try.prog a w C Q := o_setA key_intP (k := n) (v := some q) ho hx hy hz H hrep und_pool hk
theorem o_poolLen {t0 : TypeId} {d : Option Tmp} {ps : String} {af : Array Edge} {g : Option (Nat × Bool)} (hx : a.eval x = .map (some b)) (H : Own B w0 w l) (hm : mPool b m ∈ l) (hk : C (a.put d (.int .i64 (m.length : Int))) w) :
    (Oper.mk d (.call { callee := .builtin .len, args := #[x], argTypes := #[94] }) t0 ps af g).wp Try.prog a w C Q := o_lenA hx H hm und_pool rfl hk
theorem o_poolDel {l0 : List (Int × Option Nat) → List Res} {t0 : TypeId} {d : Option Tmp} {ps : String} {af : Array Edge} {g : Option (Nat × Bool)} (hx : a.eval x = .map (some b)) (hy : a.eval y = .int .i64 n) (H : Own B w0 w l)
    (hrep : ∀ m', Rep (mPool b m) (mPool b m') l (l0 m')) (hk : ∀ w', Own B w0 w' (l0 (cutA m n)) → C (a.put d (.tuple #[])) w') :
    (Oper.mk d (.call { callee := .builtin .delete, args := #[x, y], argTypes := #[94, 3] }) t0 ps af g).wp Try.prog a w C Q := o_delA key_intP hx hy H hrep und_pool rfl hk
theorem o_poolRange (ho : o.op = .range 94 x) (hx : a.eval x = .map (some b)) (H : Own B w0 w l) {l0 : Nat → List Res} (hrep : ∀ r, Rep (mPool b m) (iPool b r m m none) l (l0 r))
    (hk : ∀ w' r, Own B w0 w' (l0 r) → C (a.put o.dst (.pointer (some ⟨r, 0, none⟩))) w') : o.wp Try.prog a w C Q := o_range ho hx und_pool H l0 hrep hk
theorem o_poolNext (ho : o.op = .next x false) (hx : a.eval x = .pointer (some ⟨r, 0, none⟩)) (H : Own B w0 w l) {l0 : List (Int × Option Nat) → Option (Int × Option Nat) → List Res} (hrep : ∀ left' cur', Rep (iPool b r m left cur) (iPool b r m left' cur') l (l0 left' cur'))
    (hDone : left = [] → ∀ w', Own B w0 w' l → C (a.put o.dst (.tuple #[.bool false])) w')
    (hMore : ∀ k q left' w', left.Perm ((k, q) :: left') → Own B w0 w' (l0 left' (some (k, q))) → C (a.put o.dst (.tuple #[.bool true, .int .i64 k, oPtr q])) w') : o.wp Try.prog a w C Q := o_next ho hx H l0 hrep hDone hMore
theorem o_poolEntry {k : Int} {q : Nat} (ho : o.op = .entry x) (hx : a.eval x = .pointer (some ⟨r, 0, none⟩)) (H : Own B w0 w l) (hm : iPool b r m left (some (k, some q)) ∈ l) (hk : C (a.put o.dst (.tuple #[.int .i64 k, .pointer (some ⟨q, 0, none⟩)])) w) : o.wp Try.prog a w C Q := o_entry ho hx H hm hk
end
/-! ### A pool -/
abbrev pB (bp bm : Nat) (room c : Int) : Res := .cells bp [.int .i64 room, .int .i64 c, .map (some bm)]
def poolL (bp bm : Nat) (room c : Int) (fs : List Fr) : List Res := pB bp bm room c :: mPool bm (fs.map ent) :: fs.map fB
def poolR (bp bm : Nat) (room c : Int) (fs : List Fr) : Res := packR (poolL bp bm room c fs)
theorem poolL_ro {bp bm : Nat} {room c : Int} {fs : List Fr} : ∀ r ∈ poolL bp bm room c fs, r.ro = false := by
  intro r hr
  simp only [poolL, List.mem_cons, List.mem_map] at hr
  rcases hr with rfl | rfl | ⟨f, _, rfl⟩ <;> rfl
section
variable {w w0 : World} {B : Nat} {l : List Res} {bp bm : Nat} {room c : Int} {fs : List Fr}
theorem Own.openP (H : Own B w0 w (poolR bp bm room c fs :: l)) : Own B w0 w (pB bp bm room c :: mPool bm (fs.map ent) :: (fs.map fB ++ l)) := by simpa [poolL] using H.unpack poolL_ro
theorem Own.shutP {A : List (Int × Option Nat)} (hA : A.Perm (fs.map ent)) (H : Own B w0 w (pB bp bm room c :: mPool bm A :: (fs.map fB ++ l))) : Own B w0 w (poolR bp bm room c fs :: l) :=
  Own.pack (by simpa [poolL] using (H.swap.permA hA).swap) poolL_ro
/-- One frame taken out. -/
theorem Own.focus {L1 L2 : List Fr} {f : Fr} (H : Own B w0 w (poolR bp bm room c (L1 ++ f :: L2) :: l)) : Own B w0 w (fB f :: pB bp bm room c :: mPool bm ((L1 ++ f :: L2).map ent) :: ((L1 ++ L2).map fB ++ l)) := by
  have H1 := H.openP
  refine H1.perm ?_
  have := perm_pull (x := fB f) [pB bp bm room c, mPool bm ((L1 ++ f :: L2).map ent)] (L1.map fB) (L2.map fB) l
  simpa using this
theorem Own.unfocus {L fs' : List Fr} {f : Fr} {A : List (Int × Option Nat)} (H : Own B w0 w (fB f :: pB bp bm room c :: mPool bm A :: (L.map fB ++ l))) (hf : fs'.Perm (f :: L)) (hA : A.Perm (fs'.map ent)) : Own B w0 w (poolR bp bm room c fs' :: l) := by
  refine Own.shutP hA (H.perm ?_)
  have h1 : (fs'.map fB).Perm (fB f :: L.map fB) := by simpa using hf.map fB
  have h2 : (pB bp bm room c :: mPool bm A :: (fs'.map fB ++ l)).Perm (pB bp bm room c :: mPool bm A :: (fB f :: L.map fB ++ l)) := .cons _ (.cons _ (h1.append_right l))
  refine h2.trans ?_
  have := perm_pull (x := fB f) [pB bp bm room c, mPool bm A] [] (L.map fB) l
  simpa using this.symm
theorem nodup_no (H : Own B w0 w (poolR bp bm room c fs :: l)) : (fs.map (·.no)).Nodup := by
  have := H.openP.nodupA m1
  simpa [List.map_map, Function.comp_def] using this
theorem get_mid {L1 L2 : List Fr} {f : Fr} (hn : ((L1 ++ f :: L2).map (·.no)).Nodup) : getA ((L1 ++ f :: L2).map ent) f.no = some (some f.b) := by
  refine (getA_some ?_).2 (by simp)
  simpa [List.map_map, Function.comp_def] using hn
theorem get_out {no : Int} (h : no ∉ fs.map (·.no)) : getA (fs.map ent) no = none := by
  refine getA_none.2 ?_
  simpa [List.map_map, Function.comp_def] using h
end
/-- What the document knows of a frame. -/
structure Rf where
  no : Int
  s : ByteArray
  d : Bool
  p : Int
abbrev Fr.r (f : Fr) : Rf := ⟨f.no, f.s, f.d, f.p⟩
/-- The frames stand in the order in which they were used. -/
def Rise (c : Int) (fs : List Fr) : Prop := fs.Pairwise (fun f g => f.u < g.u) ∧ ∀ f ∈ fs, 0 ≤ f.u ∧ f.u ≤ c
end Go.Proofs.Ytbpclhgbobiahaa
