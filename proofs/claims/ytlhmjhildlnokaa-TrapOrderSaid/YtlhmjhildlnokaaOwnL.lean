/-
  Laws on operations at maps that are told as lists of entries. Nothing of the program stands here.
-/
import Derived.Test.YtlhmjhildlnokaaOwnA
import Derived.Test.YtlhmjhildlnokaaOwn2
namespace Go.Proofs.Ytlhmjhildlnokaa
set_option linter.unusedVariables false
set_option linter.unusedSectionVars false
set_option linter.unusedSimpArgs false
open Go.RowKit Go.MapKept

variable {K V : Type} [DecidableEq K]
variable {P : Program} {kt : TypeId} {kf : K → Value} {vf : V → Value} {B : Nat} {w0 w w' : World} {l l' : List Res} {ty et : TypeId} {b : Nat} {A : List (K × V)}
variable {o : Oper} {a : Act} {Q : Exit → Act → World → Prop} {x y z : Operand} {C : Act → World → Prop}
theorem o_makeA (kf : K → Value) (vf : V → Value) (ho : o.op = .makeMap ty none) (H : Own B w0 w l)
    (hk : ∀ w' b, Ext w w' → Own B w0 w' (mapA kf vf b [] :: l) → C (a.put o.dst (.map (some b))) w') : o.wp P a w C Q := by
  unfold Oper.wp execOp
  have : (Instr.makeMap ty none).run P w = .ok (.map (some w.heap.size)) (w.alloc (.map #[] 0)) := rfl
  simp only [ho, Sem.run_bind, Option.map_none, this]
  refine hk _ _ (below_alloc1 w _) ((H.ext (below_alloc1 w _)).add _ (mapA_holds ⟨#[], 0, [], heap_alloc_new w _, rfl, .refl _, by simp, by simp, by simp⟩) (fun k hk => ?_) (fun r' hr' => .inr fun k hk hk' => ?_))
  · obtain rfl : k = w.heap.size := hk
    exact ⟨by simp, fun _ => H.base⟩
  · obtain rfl : k = w.heap.size := hk
    exact absurd (H.lt r' hr' _ hk').1 (Nat.lt_irrefl _)
theorem o_getA (hK : KeyOK P kt kf) {zv : V} {k : K} (ho : o.op = .lookup ty x y false) (hx : a.eval x = .map (some b)) (hy : a.eval y = kf k) (H : Own B w0 w l) (hm : mapA kf vf b A ∈ l)
    (ht : P.underlying ty = some (.map kt et)) (hz : ∀ w, (zeroValue et).run P w = .ok (vf zv) w) (hk : C (a.put o.dst (vf ((getA A k).getD zv))) w) : o.wp P a w C Q := by
  unfold Oper.wp execOp
  have := run_lookupA (P := P) hK ht hz (H.asA hm) k false
  simp only [ho, hx, hy, Sem.run_bind, this]
  exact hk
theorem o_okA (hK : KeyOK P kt kf) {zv : V} {k : K} (ho : o.op = .lookup ty x y true) (hx : a.eval x = .map (some b)) (hy : a.eval y = kf k) (H : Own B w0 w l) (hm : mapA kf vf b A ∈ l)
    (ht : P.underlying ty = some (.map kt et)) (hz : ∀ w, (zeroValue et).run P w = .ok (vf zv) w) (hk : C (a.put o.dst (.tuple #[vf ((getA A k).getD zv), .bool (getA A k).isSome])) w) : o.wp P a w C Q := by
  unfold Oper.wp execOp
  have := run_lookupA (P := P) hK ht hz (H.asA hm) k true
  simp only [ho, hx, hy, Sem.run_bind, this]
  exact hk
/-- In a region that draws its order. -/
theorem q_getA {lf : List Res} {Kq : Act → Prop} (hK : KeyOK P kt kf) {zv : V} {k : K} (ho : o.op = .lookup ty x y false) (hx : a.eval x = .map (some b)) (hy : a.eval y = kf k) (hm : mapA kf vf b A ∈ lf)
    (ht : P.underlying ty = some (.map kt et)) (hz : ∀ w, (zeroValue et).run P w = .ok (vf zv) w) (hk : Kq (a.put o.dst (vf ((getA A k).getD zv)))) : o.quiet P a (Keeps B w0 lf) Kq :=
  ⟨_, fun w' ⟨l, H, hs⟩ => by
    unfold Oper.quietAt execOp
    have := run_lookupA (P := P) hK ht hz (H.asA (hs.mem hm)) k false
    simp only [ho, hx, hy, Sem.run_bind, this]
    exact ⟨rfl, rfl⟩, hk⟩
theorem q_okA {lf : List Res} {Kq : Act → Prop} (hK : KeyOK P kt kf) {zv : V} {k : K} (ho : o.op = .lookup ty x y true) (hx : a.eval x = .map (some b)) (hy : a.eval y = kf k) (hm : mapA kf vf b A ∈ lf)
    (ht : P.underlying ty = some (.map kt et)) (hz : ∀ w, (zeroValue et).run P w = .ok (vf zv) w) (hk : Kq (a.put o.dst (.tuple #[vf ((getA A k).getD zv), .bool (getA A k).isSome]))) : o.quiet P a (Keeps B w0 lf) Kq :=
  ⟨_, fun w' ⟨l, H, hs⟩ => by
    unfold Oper.quietAt execOp
    have := run_lookupA (P := P) hK ht hz (H.asA (hs.mem hm)) k true
    simp only [ho, hx, hy, Sem.run_bind, this]
    exact ⟨rfl, rfl⟩, hk⟩
theorem o_setA {l0 : List (K × V) → List Res} (hK : KeyOK P kt kf) {k : K} {v : V} (ho : o.op = .mapUpdate ty x y z) (hx : a.eval x = .map (some b)) (hy : a.eval y = kf k) (hv : a.eval z = vf v) (H : Own B w0 w l)
    (hrep : ∀ A', Rep (mapA kf vf b A) (mapA kf vf b A') l (l0 A')) (ht : P.underlying ty = some (.map kt et)) (hk : ∀ w', Own B w0 w' (l0 ((k, v) :: cutA A k)) → C (a.put o.dst undef) w') : o.wp P a w C Q := by
  obtain ⟨w', h1, h2⟩ := run_updateA (P := P) hK ht H k v (hrep _)
  unfold Oper.wp execOp
  simp only [ho, hx, hy, hv, Sem.run_bind, h1]
  exact hk w' h2
theorem o_lenA {t0 : TypeId} {d : Option Tmp} {ps : String} {af : Array Edge} {g : Option (Nat × Bool)} {aty : Array TypeId} (hx : a.eval x = .map (some b)) (H : Own B w0 w l) (hm : mapA kf vf b A ∈ l) (ht : P.underlying ty = some (.map kt et)) (hat : aty[0]? = some ty)
    (hk : C (a.put d (.int .i64 (A.length : Int))) w) : (Oper.mk d (.call { callee := .builtin .len, args := #[x], argTypes := aty }) t0 ps af g).wp P a w C Q := by
  have h := run_lenA (P := P) ht (H.asA hm) aty t0 hat
  unfold Oper.wp execOp
  simp only [resolve, invoke, builtin, Sem.run_bind, Sem.run_pure, Result.andThen_ok, List.map_toArray, List.map_cons, List.map_nil, hx, h]
  exact hk
/-- 'delete'. -/
theorem o_delA {l0 : List (K × V) → List Res} (hK : KeyOK P kt kf) {k : K} {t0 : TypeId} {d : Option Tmp} {ps : String} {af : Array Edge} {g : Option (Nat × Bool)} {aty : Array TypeId} (hx : a.eval x = .map (some b)) (hy : a.eval y = kf k) (H : Own B w0 w l)
    (hrep : ∀ A', Rep (mapA kf vf b A) (mapA kf vf b A') l (l0 A')) (ht : P.underlying ty = some (.map kt et)) (hat : aty[0]? = some ty)
    (hk : ∀ w', Own B w0 w' (l0 (cutA A k)) → C (a.put d (.tuple #[])) w') : (Oper.mk d (.call { callee := .builtin .delete, args := #[x, y], argTypes := aty }) t0 ps af g).wp P a w C Q := by
  obtain ⟨w', h, h2⟩ := run_deleteA (P := P) hK ht H k (hrep _) aty t0 hat
  unfold Oper.wp execOp
  simp only [resolve, invoke, builtin, Sem.run_bind, Sem.run_pure, Result.andThen_ok, List.map_toArray, List.map_cons, List.map_nil, hx, hy, h]
  exact hk w' h2
end Go.Proofs.Ytlhmjhildlnokaa
