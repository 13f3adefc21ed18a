/-
  Parts of the code of put, by the numbers of their regions and the slots of their tests; what a round's parts leave.
-/
import Derived.Test.YtlhmjhildlnokaaTrap5
namespace Go.Proofs.Ytlhmjhildlnokaa
set_option linter.unusedVariables false
set_option linter.unusedSimpArgs false
open Go.RowKit Go.Sort Go.Shelf

def rgOf (n : Nat) : Code → Option Code
  | .region m a b => if m = n then some (.region m a b) else none
  | .seq a b => match rgOf n a with | some c => some c | none => rgOf n b
  | .loop c => rgOf n c
  | .block _ c => rgOf n c
  | .scope c => rgOf n c
  | .cond _ a b => match rgOf n a with | some c => some c | none => rgOf n b
  | _ => none
def cdOf (n : Nat) : Code → Option Code
  | .seq a b => match cdOf n a with | some c => some c | none => cdOf n b
  | .loop c => cdOf n c
  | .block _ c => cdOf n c
  | .scope c => cdOf n c
  | .cond (.tmp m) a b => if m = n then some (.cond (.tmp m) a b) else (match cdOf n a with | some c => some c | none => cdOf n b)
  | _ => none
def blOf (n : Nat) : Code → Option Code
  | .seq a b => match blOf n a with | some c => some c | none => blOf n b
  | .loop c => blOf n c
  | .block m c => if m = n then some (.block m c) else blOf n c
  | .scope c => blOf n c
  | .cond _ a b => match blOf n a with | some c => some c | none => blOf n b
  | _ => none
noncomputable def pBl (n : Nat) : Code := (Try.f62.body.bind (blOf n)).getD .skip
noncomputable def pRg (n : Nat) : Code := (Try.f62.body.bind (rgOf n)).getD .skip
noncomputable def pCd (n : Nat) : Code := (Try.f62.body.bind (cdOf n)).getD .skip
theorem setR_at {P : List Pc} {i : Nat} {p : Pc} (h : P[i]? = some p) (r : Pt) : (((pR P).set (i * 10 + 3) (.bool true)).set (i * 10 + 6) (.int .i64 r.x)).set (i * 10 + 6 + 1) (.int .i64 r.y) = pR (setR P i r) := by
  have hi := (List.getElem?_eq_some_iff.1 h).1
  have e1 := flatN_set (f := pc10) (k := 10) (fun _ => rfl) (d := 3) (vs := [.bool true]) (a := p) (a' := { p with t := { p.t with hr := true } }) (by simp) rfl P i h
  have e2 := flatN_set (f := pc10) (k := 10) (fun _ => rfl) (d := 6) (vs := [.int .i64 r.x, .int .i64 r.y]) (a := { p with t := { p.t with hr := true } }) (a' := { p with t := { p.t with hr := true, r := r } }) (by simp) rfl (P.set i { p with t := { p.t with hr := true } }) i (by simp [hi])
  simp only [setL] at e1 e2
  unfold pR setR
  rw [h]
  simp only
  rw [e1, e2, List.set_set]
theorem nd_id_at {N : List Nd} {i b k c : Nat} {q : Nd} (h : N[i]? = some q) : (Res.grow 127 6 (.slice (some ⟨b, 0, none⟩) k c) k (nR N)).at b (i * 6 + 1) [.int .i64 q.id] := at_grow (by
  have := flatN_sub (f := nd6) (k := 6) (fun _ => rfl) h 1 1 (by omega)
  unfold nR; exact this)
section
variable {Pg : Program} {o : Oper} {a : Act} {w w0 : World} {B : Nat} {l : List Res} {Q : Exit → Act → World → Prop} {ty : TypeId} {x y : Operand} {b : Nat} {t0 t1 t2 t3 t4 t5 t6 t7 t8 t9 : Value}
theorem q_loadPz {lf : List Res} {K : Act → Prop} (ho : o.op = .load ty x) (hx : a.eval x = .pointer (some ⟨b, 0, none⟩)) (hm : Res.cells b [t0, t1, t2, t3, t4, t5, t6, t7, t8, t9] ∈ lf)
    (ha : ∀ w, (isAgg ty).run Pg w = .ok true w) (hs : ∀ w, (sizeOf ty).run Pg w = .ok 8 w) (hk : K (a.put o.dst (.agg #[t0, t1, t2, t3, t4, t5, t6, t7]))) : o.quiet Pg a (Keeps B w0 lf) K := q_loadN (r := .cells b [t0, t1, t2, t3, t4, t5, t6, t7, t8, t9]) (cs := [t0, t1, t2, t3, t4, t5, t6, t7]) ho hx ⟨rfl, rfl⟩ hm ha hs hk
theorem o_loadPz {K : Act → World → Prop} (ho : o.op = .load ty x) (hx : a.eval x = .pointer (some ⟨b, 0, none⟩)) (H : Own B w0 w l) (hm : Res.cells b [t0, t1, t2, t3, t4, t5, t6, t7, t8, t9] ∈ l)
    (ha : ∀ w, (isAgg ty).run Pg w = .ok true w) (hs : ∀ w, (sizeOf ty).run Pg w = .ok 8 w) (hk : K (a.put o.dst (.agg #[t0, t1, t2, t3, t4, t5, t6, t7])) w) : o.wp Pg a w K Q := o_loadN (r := .cells b [t0, t1, t2, t3, t4, t5, t6, t7, t8, t9]) (cs := [t0, t1, t2, t3, t4, t5, t6, t7]) ho hx H ⟨rfl, rfl⟩ hm ha hs hk
end
theorem pc_set {P : List Pc} {i d : Nat} {p p' : Pc} {vs : List Value} (h : P[i]? = some p) (hd : d + vs.length ≤ 10) (hv : setL (pc10 p) d vs = pc10 p') : setL (pR P) (i * 10 + d) vs = pR (P.set i p') := flatN_set (f := pc10) (k := 10) (fun _ => rfl) hd hv P i h
end Go.Proofs.Ytlhmjhildlnokaa
