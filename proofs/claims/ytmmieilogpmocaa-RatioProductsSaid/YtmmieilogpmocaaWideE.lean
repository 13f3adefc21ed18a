/-
  Two arrays of words held against each other: what == and != answer.
-/
import Derived.Test.YtmmieilogpmocaaWide
import Derived.Laws.StructEq
namespace Go.Proofs.Ytmmieilogpmocaa
set_option linter.unusedVariables false
open Go.RowKit
theorem part_u64 (xs : Array Value) (i : Nat) (v : Value) (h : xs[i]? = some v) (w : World) : (part 22 xs i).run Try.prog w = .ok v w := by
  have hsz : ∀ w, (sizeOf 22).run Try.prog w = .ok 1 w := fun w => by kernel_rfl
  unfold part
  simp [go_sem, h]
theorem eqIn_u64 (d : Nat) (a b : Int) (w : World) : (Op.equalIn (d + 1) 22 (.int .u64 a) (.int .u64 b)).run Try.prog w = .ok (a == b) w := by
  have hu2 : ∀ w, (underlying 22).run Try.prog w = .ok (.int .u64) w := fun w => by kernel_rfl
  simp [Op.equalIn, hu2]
/-- Two rows of words, held against each other one by one. -/
def eqL : List (Int × Int) → Bool
  | [] => true
  | (a, b) :: l => (a == b) && eqL l
theorem run_eqLoop (d : Nat) (xs ys : Array Value) (F : Nat → Option Bool × Unit → Sem (ForInStep (Option Bool × Unit)))
    (hF : ∀ i s, F i s = (do
      let x ← part 22 xs i
      let y ← part 22 ys i
      let r ← Op.equalIn (d + 1) 22 x y
      if r = false then pure (ForInStep.done (some false, ())) else pure (ForInStep.yield (none, ())))) :
    ∀ (l : List (Int × Int)) (k : Nat) (w : World), (∀ j p, l[j]? = some p → xs[k + j]? = some (.int .u64 p.1) ∧ ys[k + j]? = some (.int .u64 p.2)) →
    (forIn (List.range' k l.length) (none, ()) F).run Try.prog w = .ok (if eqL l then (none, ()) else (some false, ())) w := by
  intro l
  induction l with
  | nil =>
    intro k w _
    simp [eqL]
  | cons p l ih =>
    intro k w h
    have h0 := h 0 p rfl
    have hl : ∀ j q, l[j]? = some q → xs[k + 1 + j]? = some (.int .u64 q.1) ∧ ys[k + 1 + j]? = some (.int .u64 q.2) := by
      intro j q hq
      have := h (j + 1) q (by simpa using hq)
      rw [show k + 1 + j = k + (j + 1) by omega]
      exact this
    have hi := ih (k + 1) w hl
    rw [List.length_cons, List.range'_succ, List.forIn_cons, Sem.run_bind, hF]
    simp only [Sem.run_bind, part_u64 xs k _ h0.1, part_u64 ys k _ h0.2, Result.andThen_ok, eqIn_u64]
    obtain ⟨a, b⟩ := p
    by_cases e : a = b
    · have : (a == b) = true := by simpa using e
      simp only [this, eqL, Bool.true_and]
      simp [hi]
    · have : (a == b) = false := by simpa using e
      simp only [this, eqL, Bool.false_and]
      simp
theorem eqArr_in (T n d : Nat) (hu : ∀ w, (underlying T).run Try.prog w = .ok (.array n 22) w) (l : List (Int × Int)) (hn : l.length = n) (w : World) :
    (Op.equalIn (d + 2) T (.agg (l.map fun p => Value.int .u64 p.1).toArray) (.agg (l.map fun p => Value.int .u64 p.2).toArray)).run Try.prog w = .ok (eqL l) w := by
  have hsz : ∀ w, (sizeOf 22).run Try.prog w = .ok 1 w := fun w => by kernel_rfl
  rw [Op.equalIn]
  simp only [Sem.run_bind, hu, Result.andThen_ok, hsz]
  simp
  have hL := run_eqLoop d (l.map fun p => Value.int .u64 p.1).toArray (l.map fun p => Value.int .u64 p.2).toArray _ (fun i s => rfl) l 0 w (by
    intro j p hp
    simp [hp])
  rw [hn] at hL
  rw [hL]
  cases eqL l <;> simp
theorem run_eqArr (T n : Nat) (hu : ∀ w, (underlying T).run Try.prog w = .ok (.array n 22) w) (l : List (Int × Int)) (hn : l.length = n) (w : World) :
    (binOp .eql T (.agg (l.map fun p => Value.int .u64 p.1).toArray) (.agg (l.map fun p => Value.int .u64 p.2).toArray)).run Try.prog w = .ok (.bool (eqL l)) w := by
  simp only [binOp]
  simp [Op.equal, Op.maxDepth, eqArr_in T n 9998 hu l hn w]
theorem run_neArr (T n : Nat) (hu : ∀ w, (underlying T).run Try.prog w = .ok (.array n 22) w) (l : List (Int × Int)) (hn : l.length = n) (w : World) :
    (binOp .neq T (.agg (l.map fun p => Value.int .u64 p.1).toArray) (.agg (l.map fun p => Value.int .u64 p.2).toArray)).run Try.prog w = .ok (.bool (!eqL l)) w := by
  simp only [binOp]
  simp [Op.equal, Op.maxDepth, eqArr_in T n 9998 hu l hn w]
theorem eq_words (a b c d a' b' c' d' : Int) (w : World) : (binOp .eql 24 (.agg #[.int .u64 a, .int .u64 b, .int .u64 c, .int .u64 d]) (.agg #[.int .u64 a', .int .u64 b', .int .u64 c', .int .u64 d'])).run Try.prog w =
    .ok (.bool (eqL [(a, a'), (b, b'), (c, c'), (d, d')])) w := run_eqArr 24 4 (fun w => by kernel_rfl) [(a, a'), (b, b'), (c, c'), (d, d')] rfl w
theorem ne_words (a b c d a' b' c' d' : Int) (w : World) : (binOp .neq 24 (.agg #[.int .u64 a, .int .u64 b, .int .u64 c, .int .u64 d]) (.agg #[.int .u64 a', .int .u64 b', .int .u64 c', .int .u64 d'])).run Try.prog w =
    .ok (.bool (!eqL [(a, a'), (b, b'), (c, c'), (d, d')])) w := run_neArr 24 4 (fun w => by kernel_rfl) [(a, a'), (b, b'), (c, c'), (d, d')] rfl w
theorem eqL_iff (l : List (Int × Int)) : eqL l = true ↔ ∀ p ∈ l, p.1 = p.2 := by
  induction l with
  | nil => simp [eqL]
  | cons p l ih => obtain ⟨a, b⟩ := p; simp [eqL, ih]
/-- Numbers held against each other. -/
theorem eqL_sv {a b c d a' b' c' d' : Int} (ha : Wd a) (hb : Wd b) (hc : Wd c) (hd : Wd d) (ha' : Wd a') (hb' : Wd b') (hc' : Wd c') (hd' : Wd d') :
    eqL [(a, a'), (b, b'), (c, c'), (d, d')] = decide (sv a b c d = sv a' b' c' d') := by
  rw [Bool.eq_iff_iff, eqL_iff]
  simp only [List.mem_cons, List.not_mem_nil, or_false, forall_eq_or_imp, forall_eq, decide_eq_true_eq]
  constructor
  · rintro ⟨rfl, rfl, rfl, rfl⟩; rfl
  · intro h
    have h2 := iV_sv ha hb hc hd
    rw [h, iV_sv ha' hb' hc' hd'] at h2
    injection h2 with h2
    have h3 := congrArg Array.toList h2
    simp at h3
    obtain ⟨rfl, rfl, rfl, rfl⟩ := h3
    exact ⟨rfl, rfl, rfl, rfl⟩
theorem eq_iV (x y : Int) (hx : R256 x) (hy : R256 y) (w : World) : (binOp .eql 24 (iV x) (iV y)).run Try.prog w = .ok (.bool (decide (x = y))) w := by
  obtain ⟨a, b, c, d, ha, hb, hc, hd, rfl, e1⟩ := iV_words x hx
  obtain ⟨a', b', c', d', ha', hb', hc', hd', rfl, e2⟩ := iV_words y hy
  rw [e1, e2, eq_words, eqL_sv ha hb hc hd ha' hb' hc' hd']
theorem ne_iV (x y : Int) (hx : R256 x) (hy : R256 y) (w : World) : (binOp .neq 24 (iV x) (iV y)).run Try.prog w = .ok (.bool (!decide (x = y))) w := by
  obtain ⟨a, b, c, d, ha, hb, hc, hd, rfl, e1⟩ := iV_words x hx
  obtain ⟨a', b', c', d', ha', hb', hc', hd', rfl, e2⟩ := iV_words y hy
  rw [e1, e2, ne_words, eqL_sv ha hb hc hd ha' hb' hc' hd']
theorem iV_zero : iV 0 = .agg #[.int .u64 0, .int .u64 0, .int .u64 0, .int .u64 0] := by kernel_rfl
theorem iV_least : iV (-57896044618658097711785492504343953926634992332820282019728792003956564819968) = .agg #[.int .u64 0, .int .u64 0, .int .u64 0, .int .u64 9223372036854775808] := by kernel_rfl
theorem guard_agg (op : BinOp) (x y : Operand) (xs ys : Array Value) (w : World) : (eqGuard op 24 x y (.agg xs) (.agg ys)).run Try.prog w = .ok () w := by
  have h : Try.prog.eqGuardType Try.prog.depth 24 = false := by kernel_rfl
  cases op <;> simp [eqGuard, h]
theorem guard_iV (op : BinOp) (x y : Operand) (z : Int) (ys : Array Value) (w : World) : (eqGuard op 24 x y (iV z) (.agg ys)).run Try.prog w = .ok () w := guard_agg op x y _ ys w
theorem guard_iV' (op : BinOp) (x y : Operand) (z : Int) (ys : Array Value) (w : World) : (eqGuard op 24 x y (.agg ys) (iV z)).run Try.prog w = .ok () w := guard_agg op x y ys _ w
theorem guard_iVV (op : BinOp) (x y : Operand) (z u : Int) (w : World) : (eqGuard op 24 x y (iV z) (iV u)).run Try.prog w = .ok () w := guard_agg op x y _ _ w
end Go.Proofs.Ytmmieilogpmocaa
