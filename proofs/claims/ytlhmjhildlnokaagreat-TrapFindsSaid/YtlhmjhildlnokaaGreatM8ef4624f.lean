/-
  The walks of plan: ends, whether a vertex lies on a line.
-/
import Derived.Test.YtlhmjhildlnokaaGreatM0d4adf42
import Derived.MapKept
import Derived.Test.YtlhmjhildlnokaaGreatMd6b25c4b
import Derived.Test.YtlhmjhildlnokaaGreatRows
import Derived.Deep.LoopGhost
import Derived.Laws.StructEq
namespace Go.Proofs.YtlhmjhildlnokaaGreat
set_option linter.unusedVariables false
set_option linter.unusedSimpArgs false
open Go.RowKit Go.MapKept
variable {K V : Type} [DecidableEq K]
def firstI (k : K) : List (K × V) → Nat → Option (Nat × V)
 | [], _ => none
 | (k', v) :: l, i => if k = k' then some (i, v) else firstI k l (i + 1)
def upd (m : K → Option V) (k : K) (v : V) : K → Option V := fun k' => if k' = k then some v else m k'
theorem first_ge {k : K} : ∀ {L : List (K × V)} {i j : Nat} {v : V}, firstI k L i = some (j, v) → ∃ d, j = i + d ∧ L[d]? = some (k, v)
 | [], _, _, _, h => by cases h
 | (k', u) :: l, i, j, v, h => by
  unfold firstI at h
  split at h
  ·rename_i e
   injection h with h; injection h with h1 h2
   exact ⟨0, h1.symm, by rw [e, h2]; rfl⟩
  ·obtain ⟨d, h1, h2⟩ := first_ge h
   exact ⟨d + 1, by omega, by simpa using h2⟩
theorem first_set {k : K} (u : V) : ∀ {L : List (K × V)} {i d : Nat} {v : V}, firstI k L i = some (i + d, v) → ∀ k', (firstI k' (L.set d (k, u)) i).map (·.2) = if k' = k then some u else (firstI k' L i).map (·.2)
 | [], _, _, _, h => by cases h
 | (k0, v0) :: l, i, d, v, h => by
  intro k'
  unfold firstI at h
  split at h
  ·rename_i e
   injection h with h; injection h with h1 h2
   obtain rfl : d = 0 := by omega
   subst e
   simp only [List.set_cons_zero, firstI]
   split
   ·rfl
   ·rfl
  ·rename_i e
   obtain ⟨d', h1, h2⟩ := first_ge h
   obtain rfl : d = d' + 1 := by omega
   have h' : firstI k l (i + 1) = some ((i + 1) + d', v) := by rw [h, show i + (d' + 1) = i + 1 + d' by omega]
   simp only [List.set_cons_succ, firstI]
   by_cases h0 : k' = k0
   ·rw [if_pos h0, if_pos h0, if_neg (by rw [h0]; exact fun q => e q.symm)]
   ·rw [if_neg h0, if_neg h0]
    exact first_set u h' k'
theorem first_push {k : K} (u : V) : ∀ {L : List (K × V)} {i : Nat}, firstI k L i = none → ∀ k', (firstI k' (L ++ [(k, u)]) i).map (·.2) = if k' = k then some u else (firstI k' L i).map (·.2)
 | [], i, _ => by
  intro k'
  simp only [List.nil_append, firstI]
  split <;> rfl
 | (k0, v0) :: l, i, h => by
  intro k'
  unfold firstI at h
  split at h
  ·cases h
  ·rename_i e
   simp only [List.cons_append, firstI]
   by_cases h0 : k' = k0
   ·rw [if_pos h0, if_pos h0, if_neg (by rw [h0]; exact fun q => e q.symm)]
   ·rw [if_neg h0, if_neg h0]
    exact first_push u h k'
def MapIs (kf : K → Value) (vf : V → Value) (b : Nat) (m : K → Option V) (w : World) : Prop :=
 ∃ es clock, ∃ L : List (K × V), w.heap[b]? = some (.map es clock) ∧ es.toList.map (fun e => (e.key, e.val)) = L.map (fun p => (kf p.1, vf p.2)) ∧ ∀ k, (firstI k L 0).map (·.2) = m k
def mapR (kf : K → Value) (vf : V → Value) (b : Nat) (m : K → Option V) : Res := .any false (fun k => k = b) (MapIs kf vf b m)
theorem mapR_holds {kf : K → Value} {vf : V → Value} {b : Nat} {m : K → Option V} {w : World} (h : MapIs kf vf b m w) : (mapR kf vf b m).holds w := by
 intro w' hw
 obtain ⟨es, c, L, h1, h2⟩ := h
 exact ⟨es, c, L, by rw [hw b rfl]; exact h1, h2⟩
structure KeyOK (P : Program) (kt : TypeId) (kf : K → Value) : Prop where
 check : ∀ e k w, (Instr.checkKey e 10000 kt (kf k)).run P w = .ok () w
 same : ∀ k, Instr.sameBits 10000 (kf k) (kf k) = true
 find : ∃ D, P.underlying kt = some D ∧ ((∀ k k', Instr.sameNow D (kf k) (kf k') = some (decide (k = k'))) ∨ ((∀ k v, Instr.sameNow D (kf k) v = none) ∧ ∀ k k' w, (Op.equal kt (kf k) (kf k')).run P w = .ok (decide (k = k')) w))
variable {P : Program} {kt : TypeId} {kf : K → Value} {vf : V → Value}
theorem run_find (hk : KeyOK P kt kf) (k : K) {es : List MapEntry} {L : List (K × V)} (h : es.map (fun e => (e.key, e.val)) = L.map (fun p => (kf p.1, vf p.2))) (w : World) :
  (Instr.findKey kt (kf k) es).run P w = .ok ((firstI k L 0).map fun p => (p.1, vf p.2)) w := by
 obtain ⟨D, hD, h1 | ⟨h1, h2⟩⟩ := hk.find
 ·have key : ∀ (es : List MapEntry) (L : List (K × V)) (i : Nat), es.map (fun e => (e.key, e.val)) = L.map (fun p => (kf p.1, vf p.2)) → Instr.findNow D (kf k) es i = some ((firstI k L i).map fun p => (p.1, vf p.2)) := by
   intro es
   induction es with
   | nil => intro L i h; cases L with
    | nil => rfl
    | cons => simp at h
   | cons e es ih =>
    intro L i h
    cases L with
    | nil => simp at h
    | cons p L =>
     obtain ⟨k', v⟩ := p
     simp only [List.map_cons, List.cons.injEq, Prod.mk.injEq] at h
     obtain ⟨⟨ek, ev⟩, h⟩ := h
     unfold Instr.findNow firstI
     rw [ek, h1]
     by_cases hkk : k = k'
     ·rw [if_pos hkk]; simp [hkk, ev]
     ·rw [if_neg hkk]; simp [hkk, ih L (i + 1) h]
  simp only [Instr.findKey, Sem.run_bind, run_underlying hD, Result.andThen_ok, key es L 0 h, Sem.run_pure]
 ·have key : ∀ (es : List MapEntry) (L : List (K × V)) (i : Nat), es.map (fun e => (e.key, e.val)) = L.map (fun p => (kf p.1, vf p.2)) → (Instr.findAsking kt (kf k) es i).run P w = .ok ((firstI k L i).map fun p => (p.1, vf p.2)) w := by
   intro es
   induction es with
   | nil => intro L i h; cases L with
    | nil => simp [Instr.findAsking, firstI]
    | cons => simp at h
   | cons e es ih =>
    intro L i h
    cases L with
    | nil => simp at h
    | cons p L =>
     obtain ⟨k', v⟩ := p
     simp only [List.map_cons, List.cons.injEq, Prod.mk.injEq] at h
     obtain ⟨⟨ek, ev⟩, h⟩ := h
     unfold Instr.findAsking firstI
     rw [ek]
     simp only [Sem.run_bind, h2, Result.andThen_ok]
     by_cases hkk : k = k'
     ·rw [if_pos hkk]; simp [hkk, ev]
     ·rw [if_neg hkk]; simp [hkk, ih L (i + 1) h]
  cases es with
  | nil =>
   cases L with
   | nil => simp [Instr.findKey, run_underlying hD, Instr.findNow, firstI]
   | cons => simp at h
  | cons e es =>
   have hn : Instr.findNow D (kf k) (e :: es) 0 = none := by unfold Instr.findNow; rw [h1]
   simp only [Instr.findKey, Sem.run_bind, run_underlying hD, Result.andThen_ok, hn]
   exact key _ _ _ h
variable {B : Nat} {w0 w w' : World} {l l' : List Res} {ty et : TypeId} {b : Nat} {m : K → Option V}
theorem run_lookup (hk : KeyOK P kt kf) (ht : P.underlying ty = some (.map kt et)) {z : V} (hz : ∀ w, (zeroValue et).run P w = .ok (vf z) w) (h : MapIs kf vf b m w) (k : K) (ok : Bool) :
  (Instr.lookup ty (.map (some b)) (kf k) ok).run P w = .ok (if ok then .tuple #[vf ((m k).getD z), .bool (m k).isSome] else vf ((m k).getD z)) w := by
 obtain ⟨es, c, L, h1, h2, h3⟩ := h
 have hf := run_find hk k h2 w
 unfold Instr.lookup
 simp only [Sem.run_bind, run_underlying ht, Result.andThen_ok, MapKept.run_getObj_map h1, Sem.run_pure, hk.check, hf]
 rw [← h3 k]
 cases hfk : firstI k L 0 with
 | none => cases ok <;> simp [hz]
 | some p => cases ok <;> simp
theorem run_update {l0 : (K → Option V) → List Res} (hk : KeyOK P kt kf) (ht : P.underlying ty = some (.map kt et)) (H : Own B w0 w l) (hrep : ∀ m', Rep (mapR kf vf b m) (mapR kf vf b m') l (l0 m')) (k : K) (v : V) :
  ∃ w', (Instr.mapUpdate ty (.map (some b)) (kf k) (vf v)).run P w = .ok () w' ∧ Own B w0 w' (l0 (upd m k v)) := by
 obtain ⟨es, c, L, h1, h2, h3⟩ := H.holds _ (hrep m).mem w fun _ _ => rfl
 have hf := run_find hk k h2 w
 have hlt := H.lt _ (hrep m).mem b rfl
 have step : ∀ es' c' (L' : List (K × V)), es'.toList.map (fun e => (e.key, e.val)) = L'.map (fun p => (kf p.1, vf p.2)) → (∀ k', (firstI k' L' 0).map (·.2) = upd m k v k') →
   Own B w0 { w with heap := w.heap.setIfInBounds b (.map es' c') } (l0 (upd m k v)) := by
  intro es' c' L' e1 e2
  obtain ⟨g1, g2⟩ := heap_set (o' := .map es' c') h1
  refine H.change (hrep _) rfl rfl (.mk6 rfl rfl rfl (by simp) (fun k hk => g2 k (by have := hlt.2 rfl; omega)) (Nat.le_refl _)) (fun k _ hne => g2 k hne) (mapR_holds ⟨es', c', L', g1, e1, e2⟩) (fun k hk => ?_) (fun k hk => .inl hk)
  obtain rfl : k = b := hk
  simpa using hlt.1
 unfold Instr.mapUpdate
 simp only [Sem.run_bind, run_underlying ht, Result.andThen_ok, MapKept.run_getObj_map h1, hk.check, hf]
 cases hfk : firstI k L 0 with
 | none =>
  refine ⟨_, by simp only [Option.map_none, MapKept.run_setObj_map _ h1]; rfl, step _ _ (L ++ [(k, v)]) (by simp [h2]) (fun k' => ?_)⟩
  rw [first_push v hfk k', h3]; rfl
 | some p =>
  obtain ⟨j, u⟩ := p
  obtain ⟨d, hd, hL⟩ := first_ge hfk
  obtain rfl : j = d := by omega
  have he : ∃ e, es[j]? = some e ∧ e.key = kf k := by
   have hh := congrArg (·[j]?) h2
   simp only [List.getElem?_map, hL, Option.map_some] at hh
   cases he : es.toList[j]? with
   | none => simp [he] at hh
   | some e => simp [he] at hh; exact ⟨e, by simpa using he, hh.1⟩
  obtain ⟨e, he, hek⟩ := he
  have hst : (Instr.keyThatStays (kf k) (kf k)).run P w = .ok (kf k) w := by simp [Instr.keyThatStays, hk.same]
  refine ⟨_, by simp only [Option.map_some, he, Option.getD_some, hek, Sem.run_bind, hst, Result.andThen_ok, MapKept.run_setObj_map _ h1]; rfl, step _ _ (L.set j (k, v)) ?_ (fun k' => ?_)⟩
  ·apply List.ext_getElem?
   intro i
   have hh := congrArg (·[i]?) h2
   simp only [List.getElem?_map, Array.getElem?_toList] at hh
   simp only [List.getElem?_map, Array.getElem?_toList, Array.getElem?_modify, List.getElem?_set]
   by_cases hij : j = i
   ·subst hij
    have : j < L.length := (List.getElem?_eq_some_iff.1 hL).1
    simp [he, this]
   ·simp [hij, hh]
  ·have hfk' : firstI k L 0 = some (0 + j, u) := by rw [hfk, Nat.zero_add]
   rw [first_set v hfk' k', h3]; rfl
section
variable {o : Oper} {a : Act} {Q : Exit → Act → World → Prop} {x y z : Operand}
theorem o_makeMap (kf : K → Value) (vf : V → Value) {C : Act → World → Prop} (ho : o.op = .makeMap ty none) (H : Own B w0 w l)
  (hk : ∀ w' b, Ext w w' → Own B w0 w' (mapR kf vf b (fun _ => none) :: l) → C (a.put o.dst (.map (some b))) w') : o.wp P a w C Q := by
 unfold Oper.wp execOp
 have : (Instr.makeMap ty none).run P w = .ok (.map (some w.heap.size)) (w.alloc (.map #[] 0)) := rfl
 simp only [ho, Sem.run_bind, Option.map_none, this]
 refine hk _ _ (below_alloc1 w _) ((H.ext (below_alloc1 w _)).add _ (mapR_holds ⟨#[], 0, [], heap_alloc_new w _, rfl, fun _ => rfl⟩) (fun k hk => ?_) (fun r' hr' => .inr fun k hk hk' => ?_))
 ·obtain rfl : k = w.heap.size := hk
  exact ⟨by simp, fun _ => H.base⟩
 ·obtain rfl : k = w.heap.size := hk
  exact absurd (H.lt r' hr' _ hk').1 (Nat.lt_irrefl _)
theorem o_lookup {C : Act → World → Prop} (hK : KeyOK P kt kf) {zv : V} {k : K} (ho : o.op = .lookup ty x y false) (hx : a.eval x = .map (some b)) (hy : a.eval y = kf k) (H : Own B w0 w l) (hm : mapR kf vf b m ∈ l)
  (ht : P.underlying ty = some (.map kt et)) (hz : ∀ w, (zeroValue et).run P w = .ok (vf zv) w) (hk : C (a.put o.dst (vf ((m k).getD zv))) w) : o.wp P a w C Q := by
 unfold Oper.wp execOp
 have := run_lookup (P := P) hK ht hz (H.holds _ hm w fun _ _ => rfl) k false
 simp only [ho, hx, hy, Sem.run_bind, this]
 exact hk
theorem o_lookupOk {C : Act → World → Prop} (hK : KeyOK P kt kf) {zv : V} {k : K} (ho : o.op = .lookup ty x y true) (hx : a.eval x = .map (some b)) (hy : a.eval y = kf k) (H : Own B w0 w l) (hm : mapR kf vf b m ∈ l)
  (ht : P.underlying ty = some (.map kt et)) (hz : ∀ w, (zeroValue et).run P w = .ok (vf zv) w) (hk : C (a.put o.dst (.tuple #[vf ((m k).getD zv), .bool (m k).isSome])) w) : o.wp P a w C Q := by
 unfold Oper.wp execOp
 have := run_lookup (P := P) hK ht hz (H.holds _ hm w fun _ _ => rfl) k true
 simp only [ho, hx, hy, Sem.run_bind, this]
 exact hk
theorem o_mapUpdate {C : Act → World → Prop} {l0 : (K → Option V) → List Res} (hK : KeyOK P kt kf) {k : K} {v : V} (ho : o.op = .mapUpdate ty x y z) (hx : a.eval x = .map (some b)) (hy : a.eval y = kf k) (hv : a.eval z = vf v) (H : Own B w0 w l)
  (hrep : ∀ m', Rep (mapR kf vf b m) (mapR kf vf b m') l (l0 m')) (ht : P.underlying ty = some (.map kt et)) (hk : ∀ w', Own B w0 w' (l0 (upd m k v)) → C (a.put o.dst undef) w') : o.wp P a w C Q := by
 obtain ⟨w', h1, h2⟩ := run_update (P := P) hK ht H hrep k v
 unfold Oper.wp execOp
 simp only [ho, hx, hy, hv, Sem.run_bind, h1]
 exact hk w' h2
end
end Go.Proofs.YtlhmjhildlnokaaGreat
namespace Go.Proofs.YtlhmjhildlnokaaGreat
set_option linter.unusedVariables false
set_option linter.unusedSimpArgs false
structure Pt where
 x : Int
 y : Int
deriving DecidableEq
def InP (a : Pt) : Prop := (-268435456 ≤ a.x ∧ a.x ≤ 268435456) ∧ -268435456 ≤ a.y ∧ a.y ≤ 268435456
instance (a : Pt) : Decidable (InP a) := by unfold InP; exact inferInstance
def inB (a : Pt) : Bool := decide (InP a)
def LessP (a b : Pt) : Prop := a.x < b.x ∨ a.x = b.x ∧ a.y < b.y
instance (a b : Pt) : Decidable (LessP a b) := by unfold LessP; exact inferInstance
def lessB (a b : Pt) : Bool := decide (LessP a b)
def sgnZ (n : Int) : Int := if n < 0 then -1 else if 0 < n then 1 else 0
def crossZ (a b c : Pt) : Int := (b.x - a.x) * (c.y - a.y) - (b.y - a.y) * (c.x - a.x)
def turnZ (a b c : Pt) : Int := sgnZ (crossZ a b c)
def betwB (p a b : Pt) : Bool := (lessB a p && lessB p b) || (lessB b p && lessB p a)
def onL (p a b : Pt) : Bool := decide (turnZ a b p = 0) && betwB p a b
def onB (p a b : Pt) : Bool := (inB p && (inB a && inB b)) && onL p a b
def sameB (a b c d : Pt) : Bool := (decide (a = c) && decide (b = d)) || (decide (a = d) && decide (b = c))
def apartB (a b c d : Pt) : Bool := decide (turnZ a b c * turnZ a b d < 0) && decide (turnZ c d a * turnZ c d b < 0)
def meetL (a b c d : Pt) : Bool := (onL a c d || (onL b c d || (onL c a b || onL d a b))) || (sameB a b c d || apartB a b c d)
def meetB (a b c d : Pt) : Bool := ((inB a && (inB b && (inB c && inB d))) && (!decide (a = b) && !decide (c = d))) && meetL a b c d
def WithinP (p a b : Pt) : Prop := turnZ a b p = 0 ∧ (a.x ≤ p.x ∧ p.x ≤ b.x ∨ b.x ≤ p.x ∧ p.x ≤ a.x) ∧ (a.y ≤ p.y ∧ p.y ≤ b.y ∨ b.y ≤ p.y ∧ p.y ≤ a.y)
instance (p a b : Pt) : Decidable (WithinP p a b) := by unfold WithinP; exact inferInstance
def withinB (p a b : Pt) : Bool := decide (WithinP p a b)
def onR (p a b : Pt) : Bool := withinB p a b && (!decide (p = a) && !decide (p = b))
def meetR (a b c d : Pt) : Bool :=
 if turnZ a b c = 0 ∧ turnZ a b d = 0 then (onR a c d || (onR b c d || (onR c a b || (onR d a b || (withinB a c d && withinB b c d)))))
 else if (a = c ∨ a = d) ∨ b = c ∨ b = d then false
 else !(decide (turnZ a b c = turnZ a b d) || decide (turnZ c d a = turnZ c d b))
theorem sg_pos {n : Int} (h : 0 < n) : sgnZ n = 1 := by unfold sgnZ; rw [if_neg (by omega), if_pos h]
theorem sg_neg {n : Int} (h : n < 0) : sgnZ n = -1 := by unfold sgnZ; rw [if_pos h]
theorem sg_zero : sgnZ 0 = 0 := rfl
theorem sg_cases (n : Int) : (n < 0 ∧ sgnZ n = -1) ∨ (n = 0 ∧ sgnZ n = 0) ∨ (0 < n ∧ sgnZ n = 1) := by
 rcases Int.lt_trichotomy n 0 with h | h | h
 ·exact .inl ⟨h, sg_neg h⟩
 ·exact .inr (.inl ⟨h, by rw [h]; rfl⟩)
 ·exact .inr (.inr ⟨h, sg_pos h⟩)
theorem sg_eq0 (n : Int) : sgnZ n = 0 ↔ n = 0 := by rcases sg_cases n with ⟨h, k⟩ | ⟨h, k⟩ | ⟨h, k⟩ <;> rw [k] <;> omega
theorem sg_negate (n : Int) : sgnZ (-n) = - sgnZ n := by
 rcases sg_cases n with ⟨h, k⟩ | ⟨h, k⟩ | ⟨h, k⟩
 ·rw [k, sg_pos (by omega)]; rfl
 ·rw [h]; rfl
 ·rw [k, sg_neg (by omega)]
theorem sg_scale {m n a b : Int} (hm : 0 < m) (hn : 0 < n) (h : m * a = n * b) : sgnZ a = sgnZ b := by
 rcases sg_cases a with ⟨h1, k1⟩ | ⟨h1, k1⟩ | ⟨h1, k1⟩ <;> rcases sg_cases b with ⟨h2, k2⟩ | ⟨h2, k2⟩ | ⟨h2, k2⟩ <;> rw [k1, k2] <;> exfalso
 ·have := Int.mul_neg_of_pos_of_neg hm h1; rw [h, h2] at this; simp at this
 ·have := Int.mul_neg_of_pos_of_neg hm h1; have := Int.mul_pos hn h2; omega
 ·have := Int.mul_neg_of_pos_of_neg hn h2; rw [← h, h1] at this; simp at this
 ·have := Int.mul_pos hn h2; rw [← h, h1] at this; simp at this
 ·have := Int.mul_pos hm h1; have := Int.mul_neg_of_pos_of_neg hn h2; omega
 ·have := Int.mul_pos hm h1; rw [h, h2] at this; simp at this
theorem mul_bound {u v B C : Int} (h1 : -B ≤ u) (h2 : u ≤ B) (h3 : -C ≤ v) (h4 : v ≤ C) : -(B * C) ≤ u * v ∧ u * v ≤ B * C := by
 have hB : 0 ≤ B := by omega
 have hC : 0 ≤ C := by omega
 have e : (u * v).natAbs ≤ (B * C).natAbs := by
  rw [Int.natAbs_mul, Int.natAbs_mul]
  exact Nat.mul_le_mul (by omega) (by omega)
 have := Int.mul_nonneg hB hC
 omega
end Go.Proofs.YtlhmjhildlnokaaGreat
namespace Go.Proofs.YtlhmjhildlnokaaGreat
set_option linter.unusedVariables false
set_option linter.unusedSimpArgs false
open Go.RowKit
abbrev pV (x y : Int) : Value := .agg #[.int .i64 x, .int .i64 y]
theorem ret_b {b v : Bool} (h : b = v) : Ending.returned (.bool b) = .returned (.bool v) := by rw [h]
theorem ret_i {a b : Int} (h : a = b) : Ending.returned (.int .i64 a) = .returned (.int .i64 b) := by rw [h]
theorem in_t {x y : Int} (h : (-268435456 ≤ x ∧ x ≤ 268435456) ∧ -268435456 ≤ y ∧ y ≤ 268435456) : inB ⟨x, y⟩ = true := decide_eq_true h
theorem in_f {x y : Int} (h : ¬ ((-268435456 ≤ x ∧ x ≤ 268435456) ∧ -268435456 ≤ y ∧ y ≤ 268435456)) : inB ⟨x, y⟩ = false := decide_eq_false h
theorem less_t {a b c d : Int} (h : a < c ∨ a = c ∧ b < d) : lessB ⟨a, b⟩ ⟨c, d⟩ = true := decide_eq_true h
theorem less_f {a b c d : Int} (h : ¬ (a < c ∨ a = c ∧ b < d)) : lessB ⟨a, b⟩ ⟨c, d⟩ = false := decide_eq_false h
theorem in_d {x y : Int} {q : Prop} [Decidable q] (h : q ↔ ((-268435456 ≤ x ∧ x ≤ 268435456) ∧ -268435456 ≤ y ∧ y ≤ 268435456)) : decide q = inB ⟨x, y⟩ := decide_eq_decide.2 h
theorem less_d {a b c d : Int} {q : Prop} [Decidable q] (h : q ↔ (a < c ∨ a = c ∧ b < d)) : decide q = lessB ⟨a, b⟩ ⟨c, d⟩ := decide_eq_decide.2 h
theorem geomIn_any (x y : Int) (w : World) :
  Calls Tryz.prog 24 #[pV x y] w fun e w' => e = .returned (.bool (inB ⟨x, y⟩)) ∧ Below w.heap.size w w' := by
 obtain ⟨v, hv⟩ : ∃ v, inB ⟨x, y⟩ = v := ⟨_, rfl⟩
 have HV := Lib.hid hv
 rw [hv]; clear hv
 go_enter Tryz.func24, Tryz.ntmps24
 go_wp2
 all_goals
  go_ret
  refine ⟨ret_b ?_, below_alloc1 _ _⟩
  rw [← HV.out]
  first | exact in_d (x := x) (y := y) (by omega) | exact Eq.symm (in_t (x := x) (y := y) (by omega)) | exact Eq.symm (in_f (x := x) (y := y) (by omega))
set_option maxRecDepth 100000 in
set_option maxHeartbeats 4000000 in
theorem geomLess_any (ax ay bx b_y : Int) (w : World) :
  Calls Tryz.prog 25 #[pV ax ay, pV bx b_y] w fun e w' => e = .returned (.bool (lessB ⟨ax, ay⟩ ⟨bx, b_y⟩)) ∧ Below w.heap.size w w' := by
 have H := Own.start w
 obtain ⟨v, hv⟩ : ∃ v, lessB ⟨ax, ay⟩ ⟨bx, b_y⟩ = v := ⟨_, rfl⟩
 have HV := Lib.hid hv
 rw [hv]; clear hv
 go_enter Tryz.func25, Tryz.ntmps25
 go_wp2_with (first
  | go_big_skip
  | ((guard_target = wpList _ _ _ (_ :: _) _ _); (first | (refine aa335462 ?_) | (refine a32a6bca ?_; intro b2; clear H; (try clear w2); intro w2 H))))
 all_goals
  go_ret
  refine ⟨ret_b ?_, H.below⟩
  rw [← HV.out]
  first | exact less_d (a := ax) (b := ay) (c := bx) (d := b_y) (by omega) | exact Eq.symm (less_t (a := ax) (b := ay) (c := bx) (d := b_y) (by omega)) | exact Eq.symm (less_f (a := ax) (b := ay) (c := bx) (d := b_y) (by omega))
theorem sign64_any (n : Int) (w : World) :
  Calls Tryz.prog 60 #[.int .i64 n] w fun e w' => e = .returned (.int .i64 (sgnZ n)) ∧ w = w' := by
 rcases sg_cases n with ⟨h, k⟩ | ⟨h, k⟩ | ⟨h, k⟩
 ·rw [k]; clear k
  go_enter Tryz.func60, Tryz.ntmps60
  go_wp2
  go_ret
  exact ⟨rfl, rfl⟩
 ·rw [k]; clear k; subst h
  go_enter Tryz.func60, Tryz.ntmps60
  go_wp2
  go_ret
  exact ⟨rfl, rfl⟩
 ·rw [k]; clear k
  have h' : ¬ n < 0 := by omega
  go_enter Tryz.func60, Tryz.ntmps60
  go_wp2
  go_ret
  exact ⟨rfl, rfl⟩
set_option maxRecDepth 100000 in
set_option maxHeartbeats 4000000 in
theorem turn_any (ax ay bx b_y cx cy : Int) (ha : InP ⟨ax, ay⟩) (hb : InP ⟨bx, b_y⟩) (hc : InP ⟨cx, cy⟩) (w : World) :
  Calls Tryz.prog 46 #[pV ax ay, pV bx b_y, pV cx cy] w fun e w' => e = .returned (.int .i64 (turnZ ⟨ax, ay⟩ ⟨bx, b_y⟩ ⟨cx, cy⟩)) ∧ Below w.heap.size w w' := by
 have H := Own.start w
 obtain ⟨⟨a1, a2⟩, a3, a4⟩ := ha
 obtain ⟨⟨b1, b2⟩, b3, b4⟩ := hb
 obtain ⟨⟨c1, c2⟩, c3, c4⟩ := hc
 dsimp only at a1 a2 a3 a4 b1 b2 b3 b4 c1 c2 c3 c4
 have p1 := mul_bound (u := bx - ax) (v := cy - ay) (B := 536870912) (C := 536870912) (by omega) (by omega) (by omega) (by omega)
 have p2 := mul_bound (u := b_y - ay) (v := cx - ax) (B := 536870912) (C := 536870912) (by omega) (by omega) (by omega) (by omega)
 simp only [show (536870912 : Int) * 536870912 = 288230376151711744 from rfl] at p1 p2
 obtain ⟨p1, p1'⟩ := p1
 obtain ⟨p2, p2'⟩ := p2
 go_enter Tryz.func46, Tryz.ntmps46
 go_wp2_with (first
  | (go_at_call 60; (with_reducible refine (sign64_any _ _).mono ?_); rintro e w3 ⟨rfl, rfl⟩; dsimp only; (skip))
  | ((guard_target = wpList _ _ _ (_ :: _) _ _); (first | (refine aa335462 ?_) | (refine a32a6bca ?_; intro b2; clear H; (try clear w2); intro w2 H))))
 go_ret
 exact ⟨rfl, H.below⟩
set_option maxRecDepth 100000 in
set_option maxHeartbeats 4000000 in
theorem between_any (px py ax ay bx b_y : Int) (w : World) :
  Calls Tryz.prog 78 #[pV px py, pV ax ay, pV bx b_y] w fun e w' => e = .returned (.bool (betwB ⟨px, py⟩ ⟨ax, ay⟩ ⟨bx, b_y⟩)) ∧ Below w.heap.size w w' := by
 have H := Own.start w
 have e : betwB ⟨px, py⟩ ⟨ax, ay⟩ ⟨bx, b_y⟩ = ((lessB ⟨ax, ay⟩ ⟨px, py⟩ && lessB ⟨px, py⟩ ⟨bx, b_y⟩) || (lessB ⟨bx, b_y⟩ ⟨px, py⟩ && lessB ⟨px, py⟩ ⟨ax, ay⟩)) := rfl
 have l1 := geomLess_any ax ay px py
 have l2 := geomLess_any px py bx b_y
 have l3 := geomLess_any bx b_y px py
 have l4 := geomLess_any px py ax ay
 rw [e]
 clear e
 generalize lessB ⟨ax, ay⟩ ⟨px, py⟩ = v1 at l1 ⊢
 generalize lessB ⟨px, py⟩ ⟨bx, b_y⟩ = v2 at l2 ⊢
 generalize lessB ⟨bx, b_y⟩ ⟨px, py⟩ = v3 at l3 ⊢
 generalize lessB ⟨px, py⟩ ⟨ax, ay⟩ = v4 at l4 ⊢
 cases v1 <;> cases v2 <;> cases v3
 all_goals
  go_enter Tryz.func78, Tryz.ntmps78
  go_wp2_with (first
   | go_big_skip
   | (go_at_call 25; (with_reducible refine (l1 _).mono ?_); rintro e w3 ⟨rfl, hb⟩; replace H := H.ext hb; clear hb; dsimp only; (skip))
   | (go_at_call 25; (with_reducible refine (l2 _).mono ?_); rintro e w3 ⟨rfl, hb⟩; replace H := H.ext hb; clear hb; dsimp only; (skip))
   | (go_at_call 25; (with_reducible refine (l3 _).mono ?_); rintro e w3 ⟨rfl, hb⟩; replace H := H.ext hb; clear hb; dsimp only; (skip))
   | (go_at_call 25; (with_reducible refine (l4 _).mono ?_); rintro e w3 ⟨rfl, hb⟩; replace H := H.ext hb; clear hb; dsimp only; (skip))
   | ((guard_target = wpList _ _ _ (_ :: _) _ _); (first | (refine aa335462 ?_) | (refine a32a6bca ?_; intro b2; clear H; (try clear w2); intro w2 H))))
  go_ret
  exact ⟨by simp, H.below⟩
def ptL (L : List Pt) : List Value := L.flatMap fun a => [.int .i64 a.x, .int .i64 a.y]
theorem ptL_at : ∀ (L : List Pt) (k : Nat) (h : k < L.length), ((ptL L).drop (k * 2)).take 2 = [.int .i64 L[k].x, .int .i64 L[k].y]
 | [], k, h => by simp at h
 | a :: L, 0, h => by simp [ptL]
 | a :: L, k + 1, h => by
  have := ptL_at L k (by simpa using h)
  simp only [ptL, List.flatMap_cons, Nat.add_mul, Nat.one_mul, List.cons_append, List.nil_append] at this ⊢
  rw [show k * 2 + 2 = (k * 2 + 1) + 1 from rfl]
  simpa using this
theorem all_take (L : List Pt) (k : Nat) (hk : k < L.length) (v : Bool) (hv : inB L[k] = v) : (L.take (k + 1)).all inB = ((L.take k).all inB && v) := by
 rw [List.take_succ_eq_append_getElem hk, List.all_append, ← hv]; simp
theorem all_no (L : List Pt) (k : Nat) (hk : k < L.length) (hv : inB L[k] = false) : L.all inB = false := by
 rw [Bool.eq_false_iff]
 intro h
 have := List.all_eq_true.1 h L[k] (List.getElem_mem hk)
 rw [hv] at this
 cases this
set_option maxRecDepth 100000 in
set_option maxHeartbeats 4000000 in
theorem all_any (L : List Pt) (A : Option Addr) (cap : Nat) (F : Nat → Prop) (w : World) (hs : Sl F w A (ptL L)) (hl : L.length ≤ 1000000) :
  Calls Tryz.prog 45 #[.slice A L.length cap] w fun e w' => e = .returned (.bool (L.all inB)) ∧ Below w.heap.size w w' := by
 obtain ⟨v, hv⟩ : ∃ v, L.all inB = v := ⟨_, rfl⟩
 have HV := Lib.hid hv
 rw [hv]; clear hv
 obtain ⟨b0, o0, H0, f0⟩ := (Own.start w).addSl (hs.ro (by rfl))
 clear hs
 go_enter Tryz.func45, Tryz.ntmps45
 go_wp2_with fail
 go_loopg [7] L.length (fun k i wr => k ≤ L.length ∧ i = .int .i64 ((L.length - k : Nat) : Int) ∧ (L.take (L.length - k)).all inB = true ∧ Own w.heap.size w wr [.rd A b0 o0 (ptL L)])
 case atStart => exact ⟨Nat.le_refl _, by simp, by simp, H0⟩
 case round =>
  clear H0
  obtain ⟨hk, rfl, ht, H⟩ := hrel
  have HT := Lib.hid ht
  clear ht
  by_cases hlt : 0 < gk
  ·obtain ⟨j, hj⟩ : ∃ j, L.length - gk = j := ⟨_, rfl⟩
   have hjl : j < L.length := by omega
   rw [hj] at HT ⊢
   obtain rfl := H.rdAddr m0 (by have := ptL_at L j hjl; cases hp : ptL L with | nil => rw [hp] at this; simp at this | cons x l => simp)
   have hp := at_rdN (A := some ⟨b0, o0, none⟩) (b := b0) (off := o0) (xs := ptL L) (j := j * 2) (cs := [.int .i64 L[j].x, .int .i64 L[j].y]) (ptL_at L j hjl)
   have hin := geomIn_any L[j].x L[j].y
   obtain ⟨x, hx⟩ : ∃ x, L[j].x = x := ⟨_, rfl⟩
   obtain ⟨y, hy⟩ : ∃ y, L[j].y = y := ⟨_, rfl⟩
   obtain ⟨v1, hv1⟩ : ∃ v, inB L[j] = v := ⟨_, rfl⟩
   have e1 : inB ⟨L[j].x, L[j].y⟩ = v1 := hv1
   rw [e1] at hin
   rw [hx, hy] at hin hp
   have HV1 := Lib.hid hv1
   have HJ := Lib.hid hj
   clear hx hy hv1 e1 hj
   cases v1
   ·go_wp2_with (first
     | (go_at_call 24; (with_reducible refine (hin _).mono ?_); rintro e w3 ⟨rfl, hb⟩; replace H := H.ext hb; clear hb; dsimp only)
     | (guard_target = wpList _ _ _ (_ :: _) _ _; (first | (refine a15dc6b3 ?_) | (refine a181aa22 ?_; clear H; (try clear w2); intro w2 H) | (refine a9475ade ?_; intro b2; clear H; (try clear w2); intro w2 H))))
    go_ret
    exact ⟨ret_b (by rw [← HV.out, all_no L j hjl HV1.out]), H.below⟩
   ·go_wp2_with (first
     | (go_at_call 24; (with_reducible refine (hin _).mono ?_); rintro e w3 ⟨rfl, hb⟩; replace H := H.ext hb; clear hb; dsimp only)
     | (guard_target = wpList _ _ _ (_ :: _) _ _; (first | (refine a15dc6b3 ?_) | (refine a181aa22 ?_; clear H; (try clear w2); intro w2 H) | (refine a9475ade ?_; intro b2; clear H; (try clear w2); intro w2 H))))
    go_roundg (gk - 1)
    case rel => exact ⟨by omega, by have := HJ.out; congr 1; omega, by rw [show L.length - (gk - 1) = j + 1 by have := HJ.out; omega, all_take L j hjl _ HV1.out, HT.out]; rfl, H.tail⟩
    case measure => omega
  ·obtain rfl : gk = 0 := by omega
   have tk0 : True := trivial
   go_wp2_with (first | fail)
   go_ret
   exact ⟨ret_b (by rw [← HV.out, ← HT.out, Nat.sub_zero, List.take_length]), H.below⟩
theorem in_of {x y : Int} (h : inB ⟨x, y⟩ = true) : InP ⟨x, y⟩ := of_decide_eq_true h
theorem all3 (ax ay bx b_y cx cy : Int) (b : Nat) (w : World) (hs : Sl (fun _ => False) w (some ⟨b, 0, none⟩) [.int .i64 ax, .int .i64 ay, .int .i64 bx, .int .i64 b_y, .int .i64 cx, .int .i64 cy]) :
  Calls Tryz.prog 45 #[.slice (some ⟨b, 0, none⟩) 3 3] w fun e w' => e = .returned (.bool (inB ⟨ax, ay⟩ && (inB ⟨bx, b_y⟩ && inB ⟨cx, cy⟩))) ∧ Below w.heap.size w w' := by
 have h := all_any [⟨ax, ay⟩, ⟨bx, b_y⟩, ⟨cx, cy⟩] (some ⟨b, 0, none⟩) 3 (fun _ => False) w hs (by simp)
 simpa using h
theorem all4 (ax ay bx b_y cx cy dx dy : Int) (b : Nat) (w : World) (hs : Sl (fun _ => False) w (some ⟨b, 0, none⟩) [.int .i64 ax, .int .i64 ay, .int .i64 bx, .int .i64 b_y, .int .i64 cx, .int .i64 cy, .int .i64 dx, .int .i64 dy]) :
  Calls Tryz.prog 45 #[.slice (some ⟨b, 0, none⟩) 4 4] w fun e w' => e = .returned (.bool (inB ⟨ax, ay⟩ && (inB ⟨bx, b_y⟩ && (inB ⟨cx, cy⟩ && inB ⟨dx, dy⟩)))) ∧ Below w.heap.size w w' := by
 have h := all_any [⟨ax, ay⟩, ⟨bx, b_y⟩, ⟨cx, cy⟩, ⟨dx, dy⟩] (some ⟨b, 0, none⟩) 4 (fun _ => False) w hs (by simp)
 simpa using h
set_option maxRecDepth 100000 in
set_option maxHeartbeats 4000000 in
theorem on_any (px py ax ay bx b_y : Int) (w : World) :
  Calls Tryz.prog 55 #[pV px py, pV ax ay, pV bx b_y] w fun e w' => e = .returned (.bool (onB ⟨px, py⟩ ⟨ax, ay⟩ ⟨bx, b_y⟩)) ∧ Below w.heap.size w w' := by
 have H := Own.start w
 have hall := all3 px py ax ay bx b_y
 have hbt := between_any px py ax ay bx b_y
 have e : onB ⟨px, py⟩ ⟨ax, ay⟩ ⟨bx, b_y⟩ = ((inB ⟨px, py⟩ && (inB ⟨ax, ay⟩ && inB ⟨bx, b_y⟩)) && (decide (turnZ ⟨ax, ay⟩ ⟨bx, b_y⟩ ⟨px, py⟩ = 0) && betwB ⟨px, py⟩ ⟨ax, ay⟩ ⟨bx, b_y⟩)) := rfl
 rw [e]; clear e
 generalize betwB ⟨px, py⟩ ⟨ax, ay⟩ ⟨bx, b_y⟩ = v3 at hbt ⊢
 by_cases hin : (inB ⟨px, py⟩ && (inB ⟨ax, ay⟩ && inB ⟨bx, b_y⟩)) = true
 ·have hin' := hin
  simp only [Bool.and_eq_true] at hin'
  have ht := turn_any ax ay bx b_y px py (in_of hin'.2.1) (in_of hin'.2.2) (in_of hin'.1)
  rw [hin] at hall ⊢
  clear hin hin'
  generalize turnZ ⟨ax, ay⟩ ⟨bx, b_y⟩ ⟨px, py⟩ = t at ht ⊢
  by_cases h0 : t = 0
  ·subst h0
   go_enter Tryz.func55, Tryz.ntmps55
   go_wp2_with (first
    | (go_at_call 45; (with_reducible refine (hall _ _ (H.giveCells m0 (fun _ h => h.elim) 0 rfl)).mono ?_); rintro e w3 ⟨rfl, hb⟩; replace H := H.ext hb; clear hb; dsimp only; (skip))
    | (go_at_call 46; (with_reducible refine (ht _).mono ?_); rintro e w3 ⟨rfl, hb⟩; replace H := H.ext hb; clear hb; dsimp only; (skip))
    | (go_at_call 78; (with_reducible refine (hbt _).mono ?_); rintro e w3 ⟨rfl, hb⟩; replace H := H.ext hb; clear hb; dsimp only; (skip))
    | ((guard_target = wpList _ _ _ (_ :: _) _ _); (first | (refine aa335462 ?_) | (refine a32a6bca ?_; intro b2; clear H; (try clear w2); intro w2 H))))
   go_ret
   exact ⟨by simp, H.below⟩
  ·have h1 : (t == 0) = false := by simpa using h0
   rw [show decide (t = 0) = false by simpa using h0]
   clear h0
   go_enter Tryz.func55, Tryz.ntmps55
   go_wp2_with (first
    | go_big_skip
    | (go_at_call 45; (with_reducible refine (hall _ _ (H.giveCells m0 (fun _ h => h.elim) 0 rfl)).mono ?_); rintro e w3 ⟨rfl, hb⟩; replace H := H.ext hb; clear hb; dsimp only; (skip))
    | (go_at_call 46; (with_reducible refine (ht _).mono ?_); rintro e w3 ⟨rfl, hb⟩; replace H := H.ext hb; clear hb; dsimp only; (skip))
    | ((guard_target = wpList _ _ _ (_ :: _) _ _); (first | (refine aa335462 ?_) | (refine a32a6bca ?_; intro b2; clear H; (try clear w2); intro w2 H))))
   go_ret
   exact ⟨by simp, H.below⟩
 ·rw [Bool.not_eq_true] at hin
  rw [hin] at hall ⊢
  clear hin
  go_enter Tryz.func55, Tryz.ntmps55
  go_wp2_with (first
   | go_big_skip
   | (go_at_call 45; (with_reducible refine (hall _ _ (H.giveCells m0 (fun _ h => h.elim) 0 rfl)).mono ?_); rintro e w3 ⟨rfl, hb⟩; replace H := H.ext hb; clear hb; dsimp only; (skip))
   | ((guard_target = wpList _ _ _ (_ :: _) _ _); (first | (refine aa335462 ?_) | (refine a32a6bca ?_; intro b2; clear H; (try clear w2); intro w2 H))))
  go_ret
  exact ⟨by simp, H.below⟩
theorem part_int (T : TypeId) (cs : Array Value) (i : Nat) (k : IntKind) (n : Int) (hs : ∀ w, (sizeOf T).run Tryz.prog w = .ok 1 w) (ha : ∀ w, (isAgg T).run Tryz.prog w = .ok false w) (h : cs[i]? = some (.int k n)) (w : World) : (part T cs i).run Tryz.prog w = .ok (.int k n) w := by
 unfold part
 obtain ⟨hi, h'⟩ := Array.getElem?_eq_some_iff.1 h
 simp [go_sem, hs, ha, h]
 try exact h'
theorem und_int (w : World) : (underlying 3).run Tryz.prog w = .ok (.int .i64) w := by kernel_rfl
theorem eq_int_in (k : Nat) (a b : Int) (w : World) : (Op.equalIn (k + 1) 3 (.int .i64 a) (.int .i64 b)).run Tryz.prog w = .ok (decide (a = b)) w := by
 simp [Op.equalIn, go_sem, und_int]
 rw [Bool.eq_iff_iff]; simp
theorem eqP_in (k : Nat) (a b c d : Int) (w : World) : (Op.equalIn (k + 2) 28 (pV a b) (pV c d)).run Tryz.prog w = .ok (decide (a = c) && decide (b = d)) w := by
 have hu : Tryz.prog.underlying 28 = some (.struct (Tryz.prog.fieldsOf 28)) := by kernel_rfl
 have hh : Tryz.prog.stoodInHeld 28 = false := by kernel_rfl
 have hf : (Tryz.prog.fieldsOf 28).toList.map (fun f => (f.name == "_", f.type, f.offset)) = [(false, 3, 0), (false, 3, 1)] := by kernel_rfl
 rw [run_equalIn_struct w (k + 1) _ _ _ hu hh]
 revert hf
 generalize (Tryz.prog.fieldsOf 28).toList = l
 intro hf
 match l, hf with
 | [], hf => simp at hf
 | [_], hf => simp at hf
 | _ :: _ :: _ :: _, hf => simp at hf
 | [f, g], hf =>
  simp at hf
  obtain ⟨⟨f1, f2, f3⟩, g1, g2, g3⟩ := hf
  have hs : ∀ w, (sizeOf 3).run Tryz.prog w = .ok 1 w := fun w => by kernel_rfl
  have ha : ∀ w, (isAgg 3).run Tryz.prog w = .ok false w := fun w => by kernel_rfl
  have p1 := fun w => part_int 3 #[.int .i64 a, .int .i64 b] 0 .i64 a hs ha rfl w
  have p2 := fun w => part_int 3 #[.int .i64 a, .int .i64 b] 1 .i64 b hs ha rfl w
  have q1 := fun w => part_int 3 #[.int .i64 c, .int .i64 d] 0 .i64 c hs ha rfl w
  have q2 := fun w => part_int 3 #[.int .i64 c, .int .i64 d] 1 .i64 d hs ha rfl w
  simp only [Op.eqFields, f1, g1, f2, g2, f3, g3, if_true, ne_eq, not_false_eq_true, Sem.run_bind, p1, p2, q1, q2, Result.andThen_ok, eq_int_in]
  cases decide (a = c)
  ·simp
  ·simp only [Bool.not_true, Bool.false_eq_true, if_false, Sem.run_bind, p2, q2, eq_int_in, Result.andThen_ok, Bool.true_and]
   cases decide (b = d) <;> simp
theorem eq_pt (a b c d : Int) (w : World) : (binOp .eql 28 (pV a b) (pV c d)).run Tryz.prog w = .ok (.bool (decide (a = c) && decide (b = d))) w := by
 simp only [binOp]
 simp [Op.equal, Op.maxDepth, eqP_in 9998 a b c d w]
theorem ne_pt (a b c d : Int) (w : World) : (binOp .neq 28 (pV a b) (pV c d)).run Tryz.prog w = .ok (.bool (!(decide (a = c) && decide (b = d)))) w := by
 simp only [binOp]
 simp [Op.equal, Op.maxDepth, eqP_in 9998 a b c d w]
theorem pt_eq (a b c d : Int) : decide ((⟨a, b⟩ : Pt) = ⟨c, d⟩) = (decide (a = c) && decide (b = d)) := by
 rw [Bool.eq_iff_iff]; simp
theorem on_in {p a b : Pt} (h1 : inB p = true) (h2 : inB a = true) (h3 : inB b = true) : onB p a b = onL p a b := by
 unfold onB; rw [h1, h2, h3]; rfl
theorem turn_01 (a b c : Pt) : -1 ≤ turnZ a b c ∧ turnZ a b c ≤ 1 := by
 rcases sg_cases (crossZ a b c) with ⟨_, h⟩ | ⟨_, h⟩ | ⟨_, h⟩ <;> unfold turnZ <;> rw [h] <;> omega
theorem mul_01 {s t : Int} (h1 : -1 ≤ s ∧ s ≤ 1) (h2 : -1 ≤ t ∧ t ≤ 1) : -1 ≤ s * t ∧ s * t ≤ 1 := mul_bound (B := 1) (C := 1) h1.1 h1.2 h2.1 h2.2
set_option maxRecDepth 100000 in
set_option maxHeartbeats 8000000 in
theorem meet_out (ax ay bx b_y cx cy dx dy : Int) (hin : ((inB ⟨ax, ay⟩ && (inB ⟨bx, b_y⟩ && (inB ⟨cx, cy⟩ && inB ⟨dx, dy⟩))) && (!decide ((⟨ax, ay⟩ : Pt) = ⟨bx, b_y⟩) && !decide ((⟨cx, cy⟩ : Pt) = ⟨dx, dy⟩))) = false) (w : World) :
  Calls Tryz.prog 56 #[pV ax ay, pV bx b_y, pV cx cy, pV dx dy] w fun e w' => e = .returned (.bool false) ∧ Below w.heap.size w w' := by
 have H := Own.start w
 have hall := all4 ax ay bx b_y cx cy dx dy
 have e1 := eq_pt ax ay bx b_y
 have e2 := eq_pt cx cy dx dy
 rw [← pt_eq] at e1 e2
 generalize decide ((⟨ax, ay⟩ : Pt) = ⟨bx, b_y⟩) = u1 at hin e1
 generalize decide ((⟨cx, cy⟩ : Pt) = ⟨dx, dy⟩) = u2 at hin e2
 generalize (inB ⟨ax, ay⟩ && (inB ⟨bx, b_y⟩ && (inB ⟨cx, cy⟩ && inB ⟨dx, dy⟩))) = u0 at hin hall
 cases u0
 ·clear hin
  go_enter Tryz.func56, Tryz.ntmps56
  go_wp2_with (first
   | go_big_skip
   | (go_at_call 45; (with_reducible refine (hall _ _ (H.giveCells m0 (fun _ h => h.elim) 0 rfl)).mono ?_); rintro e w3 ⟨rfl, hb⟩; replace H := H.ext hb; clear hb; dsimp only; (skip))
   | ((guard_target = wpList _ _ _ (_ :: _) _ _); (first | (refine aa335462 ?_) | (refine a32a6bca ?_; intro b2; clear H; (try clear w2); intro w2 H))))
  go_ret
  exact ⟨rfl, H.below⟩
 ·cases u1
  ·cases u2
   ·simp at hin
   ·clear hin
    go_enter Tryz.func56, Tryz.ntmps56
    go_wp2_with (first
     | (go_at_call 45; (with_reducible refine (hall _ _ (H.giveCells m0 (fun _ h => h.elim) 0 rfl)).mono ?_); rintro e w3 ⟨rfl, hb⟩; replace H := H.ext hb; clear hb; dsimp only; (skip))
     | ((guard_target = wpList _ _ _ (_ :: _) _ _); (first | (refine aa335462 ?_) | (refine a32a6bca ?_; intro b2; clear H; (try clear w2); intro w2 H))))
    go_ret
    exact ⟨rfl, H.below⟩
  ·clear hin
   go_enter Tryz.func56, Tryz.ntmps56
   go_wp2_with (first
    | go_big_skip
    | (go_at_call 45; (with_reducible refine (hall _ _ (H.giveCells m0 (fun _ h => h.elim) 0 rfl)).mono ?_); rintro e w3 ⟨rfl, hb⟩; replace H := H.ext hb; clear hb; dsimp only; (skip))
    | ((guard_target = wpList _ _ _ (_ :: _) _ _); (first | (refine aa335462 ?_) | (refine a32a6bca ?_; intro b2; clear H; (try clear w2); intro w2 H))))
   go_ret
   exact ⟨rfl, H.below⟩
structure Vt where
 id : Int
 p : Pt
deriving DecidableEq
structure Eg where
 id : Int
 a : Int
 b : Int
deriving DecidableEq
abbrev t3 (i x y : Int) : List Value := [.int .i64 i, .int .i64 x, .int .i64 y]
abbrev v3 (i x y : Int) : Value := .agg #[.int .i64 i, .int .i64 x, .int .i64 y]
def vR (l : List Vt) : List Value := l.flatMap fun v => t3 v.id v.p.x v.p.y
def eR (l : List Eg) : List Value := l.flatMap fun e => t3 e.id e.a e.b
theorem flat3_len {α : Type} (f : α → List Value) (hf : ∀ a, (f a).length = 3) : ∀ l : List α, (l.flatMap f).length = l.length * 3
 | [] => rfl
 | a :: l => by simp only [List.flatMap_cons, List.length_append, hf, flat3_len f hf l, List.length_cons]; omega
theorem flat3_at {α : Type} (f : α → List Value) (hf : ∀ a, (f a).length = 3) : ∀ (l : List α) (k : Nat) (a : α), l[k]? = some a → ((l.flatMap f).drop (k * 3)).take 3 = f a
 | [], k, a, h => by simp at h
 | b :: l, 0, a, h => by
  obtain rfl : b = a := by simpa using h
  simp only [List.flatMap_cons, Nat.zero_mul, List.drop_zero]
  rw [List.take_append_of_le_length (by rw [hf]; exact Nat.le_refl _), List.take_of_length_le (by rw [hf]; exact Nat.le_refl _)]
 | b :: l, k + 1, a, h => by
  have := flat3_at f hf l k a (by simpa using h)
  rw [List.flatMap_cons, show (k + 1) * 3 = 3 + k * 3 by omega, ← List.drop_drop]
  rw [List.drop_append_of_le_length (by rw [hf]; exact Nat.le_refl _), List.drop_of_length_le (l := f b) (by rw [hf]; exact Nat.le_refl _), List.nil_append]
  exact this
theorem vR_len (l : List Vt) : (vR l).length = l.length * 3 := flat3_len _ (fun _ => rfl) l
theorem eR_len (l : List Eg) : (eR l).length = l.length * 3 := flat3_len _ (fun _ => rfl) l
theorem eR_take (l : List Eg) (k : Nat) : eR (l.take k) = (eR l).take (k * 3) := by
 induction l generalizing k with
 | nil => simp [eR]
 | cons a l ih =>
  cases k with
  | zero => simp [eR]
  | succ k =>
   have := ih k
   simp only [eR, List.take_succ_cons, List.flatMap_cons] at this ⊢
   rw [this, show (k + 1) * 3 = k * 3 + 1 + 1 + 1 by omega]; rfl
section
variable {A : Option Addr} {b off : Nat} {vs : List Vt} {es : List Eg} {k : Nat} {i x y : Int}
theorem at_v (h : vs[k]? = some ⟨i, ⟨x, y⟩⟩) : (Res.rd A b off (vR vs)).at b (off + k * 3) (t3 i x y) := at_rdN (cs := t3 i x y) (flat3_at _ (fun _ => rfl) vs k _ h)
theorem at_e (h : es[k]? = some ⟨i, x, y⟩) : (Res.rd A b off (eR es)).at b (off + k * 3) (t3 i x y) := at_rdN (cs := t3 i x y) (flat3_at _ (fun _ => rfl) es k _ h)
theorem sub_at {xs cs : List Value} {j n : Nat} (h : (xs.drop j).take n = cs) (d m : Nat) (hd : d + m ≤ n) : (xs.drop (j + d)).take m = (cs.drop d).take m := by
 rw [← List.drop_drop, ← h, List.drop_take, List.take_take, Nat.min_eq_left (by omega)]
theorem at_vid (h : vs[k]? = some ⟨i, ⟨x, y⟩⟩) : (Res.rd A b off (vR vs)).at b (off + k * 3) [.int .i64 i] := by
 refine at_rdN (j := k * 3) (cs := [_]) ?_
 exact sub_at (flat3_at _ (fun _ => rfl) vs k _ h) 0 1 (by omega)
theorem at_vp (h : vs[k]? = some ⟨i, ⟨x, y⟩⟩) : (Res.rd A b off (vR vs)).at b (off + k * 3 + 1) [.int .i64 x, .int .i64 y] := by
 rw [Nat.add_assoc]
 refine at_rdN (j := k * 3 + 1) (cs := [_, _]) ?_
 exact sub_at (flat3_at _ (fun _ => rfl) vs k _ h) 1 2 (by omega)
theorem at_eid (h : es[k]? = some ⟨i, x, y⟩) : (Res.rd A b off (eR es)).at b (off + k * 3) [.int .i64 i] := by
 refine at_rdN (j := k * 3) (cs := [_]) ?_
 exact sub_at (flat3_at _ (fun _ => rfl) es k _ h) 0 1 (by omega)
theorem at_ea (h : es[k]? = some ⟨i, x, y⟩) : (Res.rd A b off (eR es)).at b (off + k * 3 + 1) [.int .i64 x] := by
 rw [Nat.add_assoc]
 refine at_rdN (j := k * 3 + 1) (cs := [_]) ?_
 exact sub_at (flat3_at _ (fun _ => rfl) es k _ h) 1 1 (by omega)
theorem at_eb (h : es[k]? = some ⟨i, x, y⟩) : (Res.rd A b off (eR es)).at b (off + k * 3 + 2) [.int .i64 y] := by
 rw [Nat.add_assoc]
 refine at_rdN (j := k * 3 + 2) (cs := [_]) ?_
 exact sub_at (flat3_at _ (fun _ => rfl) es k _ h) 2 1 (by omega)
end
theorem vR_pos {vs : List Vt} {k : Nat} {v : Vt} (h : vs[k]? = some v) : 0 < (vR vs).length := by
 have := (List.getElem?_eq_some_iff.1 h).1
 rw [vR_len]; omega
theorem eR_pos {vs : List Eg} {k : Nat} {v : Eg} (h : vs[k]? = some v) : 0 < (eR vs).length := by
 have := (List.getElem?_eq_some_iff.1 h).1
 rw [eR_len]; omega
theorem vt_at (vs : List Vt) {k : Nat} (h : k < vs.length) : ∃ i x y, vs[k]? = some ⟨i, ⟨x, y⟩⟩ := ⟨vs[k].id, vs[k].p.x, vs[k].p.y, by rw [List.getElem?_eq_getElem h]⟩
theorem eg_at (vs : List Eg) {k : Nat} (h : k < vs.length) : ∃ i x y, vs[k]? = some ⟨i, x, y⟩ := ⟨vs[k].id, vs[k].a, vs[k].b, by rw [List.getElem?_eq_getElem h]⟩
section
variable {P : Program} {o : Oper} {a : Act} {w w0 : World} {B : Nat} {l : List Res} {Q : Exit → Act → World → Prop} {ty : TypeId} {x y : Operand} {b : Nat} {n : Value} {d : List Value}
theorem part12 : (Res.cells b (n :: d)).at b 1 d := ⟨rfl, by simp⟩
theorem q_loadPt {lf : List Res} {K : Act → Prop} (ho : o.op = .load ty x) (hx : a.eval x = .pointer (some ⟨b, 1, none⟩)) (hm : Res.cells b (n :: d) ∈ lf)
  (ha : ∀ w, (isAgg ty).run P w = .ok true w) (hs : ∀ w, (sizeOf ty).run P w = .ok d.length w) (hk : K (a.put o.dst (.agg d.toArray))) : o.quiet P a (Keeps B w0 lf) K := q_loadN ho hx part12 hm ha hs hk
theorem o_loadPt {K : Act → World → Prop} (ho : o.op = .load ty x) (hx : a.eval x = .pointer (some ⟨b, 1, none⟩)) (H : Own B w0 w l) (hm : Res.cells b (n :: d) ∈ l)
  (ha : ∀ w, (isAgg ty).run P w = .ok true w) (hs : ∀ w, (sizeOf ty).run P w = .ok d.length w) (hk : K (a.put o.dst (.agg d.toArray)) w) : o.wp P a w K Q := o_loadN ho hx H part12 hm ha hs hk
end
theorem any_yes {α : Type} {l : List α} {k : Nat} {a : α} {f : α → Bool} (h : l[k]? = some a) (hf : f a = true) : l.any f = true := List.any_eq_true.2 ⟨a, List.mem_of_getElem? h, hf⟩
theorem any_step {α : Type} {l : List α} {k : Nat} {a : α} {f : α → Bool} (h : l[k]? = some a) (h0 : (l.take k).any f = false) (hf : f a = false) : (l.take (k + 1)).any f = false := by
 rw [List.take_add_one, h, List.any_append, h0]; simp [hf]
theorem key_int : KeyOK Tryz.prog 3 (Value.int .i64) where
 check e k w := by
  have : ∀ n, (Instr.checkKey e (n + 1) 3 (Value.int .i64 k)).run Tryz.prog w = .ok () w := fun n => by simp [Instr.checkKey, und_int]
  exact this 9999
 same k := by simp [Instr.sameBits]
 find := ⟨.int .i64, by kernel_rfl, .inl fun k k' => by simp [Instr.sameNow]; rw [Bool.eq_iff_iff]; simp⟩
abbrev kP (p : Pt) : Value := pV p.x p.y
theorem int_size (w : World) : (sizeOf 3).run Tryz.prog w = .ok 1 w := by kernel_rfl
theorem int_agg (w : World) : (isAgg 3).run Tryz.prog w = .ok false w := by kernel_rfl
theorem key_pt : KeyOK Tryz.prog 28 kP where
 check e k w := by
  have hu : Tryz.prog.underlying 28 = some (.struct (Tryz.prog.fieldsOf 28)) := by kernel_rfl
  have hf : (Tryz.prog.fieldsOf 28).toList.map (fun f => (f.name == "_", f.type, f.offset)) = [(false, 3, 0), (false, 3, 1)] := by kernel_rfl
  have : ∀ n, (Instr.checkKey e (n + 1 + 1) 28 (pV k.x k.y)).run Tryz.prog w = .ok () w := fun n => by
   unfold Instr.checkKey
   simp only [Sem.run_bind, run_underlying hu, Result.andThen_ok]
   revert hf
   generalize Tryz.prog.fieldsOf 28 = l
   obtain ⟨l⟩ := l
   intro hf
   match l, hf with
   | [], hf => simp at hf
   | [_], hf => simp at hf
   | _ :: _ :: _ :: _, hf => simp at hf
   | [f, g], hf =>
    simp at hf
    obtain ⟨⟨f1, f2, f3⟩, g1, g2, g3⟩ := hf
    have p1 := fun w => part_int 3 #[.int .i64 k.x, .int .i64 k.y] 0 .i64 k.x int_size int_agg rfl w
    have p2 := fun w => part_int 3 #[.int .i64 k.x, .int .i64 k.y] 1 .i64 k.y int_size int_agg rfl w
    simp [f1, f2, f3, g1, g2, g3, p1, p2, Instr.checkKey, und_int]
  exact this 9998
 same k := by
  have : ∀ n, Instr.sameBits (n + 1) (pV k.x k.y) (pV k.x k.y) = true := fun n => by simp [Instr.sameBits]
  exact this 9999
 find := ⟨.struct (Tryz.prog.fieldsOf 28), by kernel_rfl, .inr ⟨fun k v => by simp [Instr.sameNow], fun k k' w => by
  have := eqP_in 9998 k.x k.y k'.x k'.y w
  rw [← pt_eq] at this
  exact this⟩⟩
theorem eqPair_in (n : Nat) (a b c d : Int) (w : World) : (Op.equalIn (n + 1 + 1) 92 (pV a b) (pV c d)).run Tryz.prog w = .ok (decide (a = c) && decide (b = d)) w := by
 have hu : Tryz.prog.underlying 92 = some (.array 2 3) := by kernel_rfl
 have p1 := fun w => part_int 3 #[.int .i64 a, .int .i64 b] 0 .i64 a int_size int_agg rfl w
 have p2 := fun w => part_int 3 #[.int .i64 a, .int .i64 b] 1 .i64 b int_size int_agg rfl w
 have q1 := fun w => part_int 3 #[.int .i64 c, .int .i64 d] 0 .i64 c int_size int_agg rfl w
 have q2 := fun w => part_int 3 #[.int .i64 c, .int .i64 d] 1 .i64 d int_size int_agg rfl w
 unfold Op.equalIn
 simp only [Sem.run_bind, run_underlying hu, Result.andThen_ok, int_size]
 simp [Std.Legacy.Range.forIn_eq_forIn_range', List.range', p1, p2, q1, q2, eq_int_in]
 by_cases h1 : a = c <;> by_cases h2 : b = d <;> simp_all
theorem key_pair : KeyOK Tryz.prog 92 kP where
 check e k w := by
  have hu : Tryz.prog.underlying 92 = some (.array 2 3) := by kernel_rfl
  have p1 := fun w => part_int 3 #[.int .i64 k.x, .int .i64 k.y] 0 .i64 k.x int_size int_agg rfl w
  have p2 := fun w => part_int 3 #[.int .i64 k.x, .int .i64 k.y] 1 .i64 k.y int_size int_agg rfl w
  have : ∀ n, (Instr.checkKey e (n + 1 + 1) 92 (pV k.x k.y)).run Tryz.prog w = .ok () w := fun n => by
   unfold Instr.checkKey
   simp [run_underlying hu, Std.Legacy.Range.forIn_eq_forIn_range', List.range', int_size, p1, p2, Instr.checkKey, und_int]
  exact this 9998
 same k := by
  have : ∀ n, Instr.sameBits (n + 1) (pV k.x k.y) (pV k.x k.y) = true := fun n => by simp [Instr.sameBits]
  exact this 9999
 find := ⟨.array 2 3, by kernel_rfl, .inr ⟨fun k v => by simp [Instr.sameNow], fun k k' w => by
  have := eqPair_in 9998 k.x k.y k'.x k'.y w
  rw [← pt_eq] at this
  exact this⟩⟩
set_option maxRecDepth 100000 in
set_option maxHeartbeats 4000000 in
theorem ends_any (i a b : Int) (w : World) :
  Calls Tryz.prog 37 #[v3 i a b] w fun e w' => e = .returned (pV (min a b) (max a b)) ∧ Below w.heap.size w w' := by
 have H := Own.start w
 obtain ⟨p, hp⟩ : ∃ p, min a b = p := ⟨_, rfl⟩
 obtain ⟨q, hq⟩ : ∃ q, max a b = q := ⟨_, rfl⟩
 rw [hp, hq]
 go_enter Tryz.func37, Tryz.ntmps37
 have tk0 : True := trivial
 have tk1 : True := trivial
 go_wp2_with (guard_target = wpList _ _ _ (_ :: _) _ _; (first | (refine a15dc6b3 ?_) | (refine a181aa22 ?_; clear H; (try clear w2); intro w2 H) | (refine a9475ade ?_; intro b2; clear H; (try clear w2); intro w2 H; (first | (clear tk0; rename Nat => b1) | (clear tk1; rename Nat => b2)))))
 all_goals
  have e1 : (if b < a then b else a) = p := by rw [← hp]; split <;> omega
  have e2 : (if a < b then b else a) = q := by rw [← hq]; split <;> omega
  rw [e1, e2] at H
  have hr := H.loadVarN (P := Tryz.prog) (ty := 92) m0 (by simp) (by simp)
  exact bodyPost_ret (v := pV p q) (by simp [results, Tryz.results37, asAddr, hr]) rfl ⟨rfl, H.below⟩
set_option maxRecDepth 100000 in
set_option maxHeartbeats 4000000 in
theorem onWay_any (vs : List Vt) (A A2 : Option Addr) (n m : Nat) (c c2 : Nat) (F : Nat → Prop) (ax ay bx b_y : Int) (w : World) (hn : n = vs.length) (hs : Sl F w A (vR vs)) (hl : n ≤ 1000000) :
  Calls Tryz.prog 38 #[.agg #[.slice A n c, .slice A2 m c2], pV ax ay, pV bx b_y] w fun e w' => e = .returned (.bool (vs.any fun v => onB v.p ⟨ax, ay⟩ ⟨bx, b_y⟩)) ∧ Below w.heap.size w w' := by
 obtain ⟨v, hv⟩ : ∃ v, (vs.any fun v => onB v.p ⟨ax, ay⟩ ⟨bx, b_y⟩) = v := ⟨_, rfl⟩
 have HV := Lib.hid hv
 rw [hv]; clear hv
 obtain ⟨b0, o0, H, f0⟩ := (Own.start w).addSl (hs.ro (by rfl))
 clear hs
 subst hn
 generalize hf : (fun v : Vt => onB v.p ⟨ax, ay⟩ ⟨bx, b_y⟩) = f at HV
 go_enter Tryz.func38, Tryz.ntmps38
 have tk0 : True := trivial
 have tk1 : True := trivial
 have tk2 : True := trivial
 go_wp2_with (guard_target = wpList _ _ _ (_ :: _) _ _; (first | (refine a15dc6b3 ?_) | (refine a9475ade ?_; intro b2; clear H; (try clear w2); intro w2 H; (first | (clear tk0; rename Nat => b1) | (clear tk1; rename Nat => b2) | (clear tk2; rename Nat => b3)))))
 go_loopg [12] vs.length (fun k i wr => k ≤ vs.length ∧ i = .int .i64 ((vs.length - k : Nat) : Int) ∧ (vs.take (vs.length - k)).any f = false ∧ Own w.heap.size w wr [.cells b3 [.int .i64 bx, .int .i64 b_y], .cells b2 [.int .i64 ax, .int .i64 ay], .cells b1 [.slice A vs.length c, .slice A2 m c2], .rd A b0 o0 (vR vs)])
 case atStart => exact ⟨Nat.le_refl _, by simp, by simp, H⟩
 case round =>
  clear H
  obtain ⟨hk, rfl, ht, H⟩ := hrel
  have HT := Lib.hid ht
  clear ht
  by_cases hlt : 0 < gk
  ·obtain ⟨j, hj⟩ : ∃ j, vs.length - gk = j := ⟨_, rfl⟩
   have hjl : j < vs.length := by omega
   rw [hj] at HT ⊢
   obtain ⟨i, x, y, he⟩ := vt_at vs hjl
   obtain rfl := H.rdAddr m3 (vR_pos he)
   have hp := at_v (A := some ⟨b0, o0, none⟩) (b := b0) (off := o0) he
   have hon := on_any x y ax ay bx b_y
   obtain ⟨v1, hv1⟩ : ∃ v, onB ⟨x, y⟩ ⟨ax, ay⟩ ⟨bx, b_y⟩ = v := ⟨_, rfl⟩
   have hfv : f ⟨i, ⟨x, y⟩⟩ = v1 := by rw [← hf]; exact hv1
   rw [hv1] at hon
   have HF := Lib.hid hfv
   have HE := Lib.hid he
   have HJ := Lib.hid hj
   clear hv1 hfv he hj hf
   cases v1
   ·have tk0 : True := trivial
    go_wp2_with (first
     | (go_at_call 55; (with_reducible refine (hon _).mono ?_); rintro e w3 ⟨rfl, hb⟩; replace H := H.ext hb; clear hb; dsimp only)
     | (guard_target = wpList _ _ _ (_ :: _) _ _; (first | (refine a44c7a0d ?_) | (refine a181aa22 ?_; clear H; (try clear w2); intro w2 H) | (refine a9475ade ?_; intro b2; clear H; (try clear w2); intro w2 H; (clear tk0; rename Nat => b4)))))
    go_roundg (gk - 1)
    case rel => exact ⟨by omega, by have := HJ.out; congr 1; omega, by rw [show vs.length - (gk - 1) = j + 1 by have := HJ.out; omega]; exact any_step HE.out HT.out HF.out, H.tail⟩
    case measure => omega
   ·have tk0 : True := trivial
    go_wp2_with (first
     | (go_at_call 55; (with_reducible refine (hon _).mono ?_); rintro e w3 ⟨rfl, hb⟩; replace H := H.ext hb; clear hb; dsimp only)
     | (guard_target = wpList _ _ _ (_ :: _) _ _; (first | (refine a44c7a0d ?_) | (refine a181aa22 ?_; clear H; (try clear w2); intro w2 H) | (refine a9475ade ?_; intro b2; clear H; (try clear w2); intro w2 H; (clear tk0; rename Nat => b4)))))
    go_ret
    exact ⟨ret_b (by rw [← HV.out, any_yes HE.out HF.out]), H.below⟩
  ·obtain rfl : gk = 0 := by omega
   have tk0 : True := trivial
   go_wp2_with (first | fail)
   go_ret
   exact ⟨ret_b (by rw [← HV.out, ← HT.out, Nat.sub_zero, List.take_length]), H.below⟩
end Go.Proofs.YtlhmjhildlnokaaGreat
