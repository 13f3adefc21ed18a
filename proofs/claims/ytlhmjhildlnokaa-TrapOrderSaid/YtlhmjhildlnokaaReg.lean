/-
  A law on regions that draw their order: an operation that yields one value in every world that keeps what is known is taken first; the others come one at a time, or in every order. Nothing of the program stands here.
-/
import Derived.Test.YtlhmjhildlnokaaOwn
namespace Go.Proofs.Ytlhmjhildlnokaa
set_option linter.unusedVariables false
open Go.RowKit
variable {P : Program} {ops : Array Oper} {Q : Exit → Act → World → Prop}

theorem YieldsIf.less {S S' : World → Prop} {o : Oper} {v : Value} {a : Act} (hy : YieldsIf P ops S o v a) (h : ∀ w, S' w → S w) : YieldsIf P ops S' o v a :=
  hy.imp (fun ⟨h1, h2⟩ => ⟨h1, fun w hw => h2 w (h w hw)⟩) id

/-- Whatever order is picked from here on; behind each operation a condition on the world holds that says no less. -/
def wpAnyS (P : Program) (ops : Array Oper) (Q : Exit → Act → World → Prop) : Nat → (World → Prop) → Array Bool → Act → World → Prop
  | 0, _, done, a, w => Region.ready .any ops done = [] ∧ Q .normal a w
  | f + 1, S, done, a, w => (Region.ready .any ops done = [] → Q .normal a w) ∧
    ∀ i ∈ Region.ready .any ops done, wpOp P ops Q i (fun a' w' => ∃ S' : World → Prop, (∀ w, S' w → S w) ∧ S' w' ∧ wpAnyS P ops Q f S' (done.setIfInBounds i true) a' w') a w
theorem wpAny_of_S : ∀ (f : Nat) (S : World → Prop) (done : Array Bool) (a : Act) (w : World), wpAnyS P ops Q f S done a w → wpAny P .any ops Q f done a w
  | 0, _, _, _, _, h => h
  | f + 1, _, _, _, _, h => ⟨h.1, fun i hi => wpOp_mono (fun a' w' ⟨S', _, _, h'⟩ => wpAny_of_S f S' _ a' w' h') (h.2 i hi)⟩
/-- An operation may be taken first. -/
theorem wpAnyS_first {i : Nat} {o : Oper} {v : Value} (ho : ops[i]? = some o) (hsel : ∀ (j : Nat) (x : Oper) cs b, ops[j]? = some x → x.op ≠ .select cs b)
    (hQ : ∀ c a w, Q (.panic c) (a.put o.dst v) w → Q (.panic c) a w) :
    ∀ (f : Nat) (S : World → Prop) (done : Array Bool) (a : Act) (w : World),
      (∀ j x, ops[j]? = some x → j ≠ i → done.getD j true = false → (∀ e ∈ x.after, Region.binds .any e = true → e.on ≠ i) → o.apart ops x = true) →
      i ∈ Region.ready .any ops done → YieldsIf P ops S o v a → S w → wpAnyS P ops Q f S (done.setIfInBounds i true) (a.put o.dst v) w → wpAnyS P ops Q (f + 1) S done a w := by
  intro f
  induction f with
  | zero =>
    intro S done a w _ hr hy hS H
    refine ⟨fun h => (by rw [h] at hr; cases hr), fun j hj => ?_⟩
    by_cases hji : j = i
    · subst hji; exact hy.wpOp ho hS ⟨S, fun _ h => h, hS, H⟩
    · have := ready_mono hj hji
      rw [H.1] at this
      cases this
  | succ f ih =>
    intro S done a w hfree hr hy hS H
    refine ⟨fun h => (by rw [h] at hr; cases hr), fun j hj => ?_⟩
    by_cases hji : j = i
    · subst hji; exact hy.wpOp ho hS ⟨S, fun _ h => h, hS, H⟩
    · have h1 := H.2 j (ready_mono hj hji)
      obtain ⟨hjun, x, hx, hall⟩ := mem_ready.1 hj
      have hnot : ∀ e ∈ x.after, Region.binds .any e = true → e.on ≠ i := fun e he hb heq => by
        have h1 := hall e he hb
        have h0 := (mem_ready.1 hr).1
        rw [heq] at h1
        rcases Nat.lt_or_ge i done.size with h' | h'
        · simp [h'] at h0 h1; rw [h0] at h1; cases h1
        · simp [Array.getElem?_eq_none h'] at h1
      have h2 := wpOp_putIf hx (hfree j x hx hji hjun hnot) (fun cs b => hsel i o cs b ho) (fun cs b => hsel j x cs b hx) hQ hy h1
      refine wpOp_mono (fun a' w' h3 => ?_) h2
      obtain ⟨hy', S', hSS, hS', hH⟩ := h3
      refine ⟨S', hSS, hS', ih S' (done.setIfInBounds j true) a' w' ?_ (ready_mono hr (Ne.symm hji)) (YieldsIf.less hy' hSS) hS' ?_⟩
      · intro k y hk hki hkun hno
        refine hfree k y hk hki ?_ hno
        by_cases hjk : j = k
        · subst hjk; exact hjun
        · rw [getD_set_ne true hjk] at hkun; exact hkun
      · rw [Array.setIfInBounds_comm _ _ hji]; exact hH

/-- An order of the prover's, with a branch wherever several operations may come up that are not taken first. -/
inductive Tr where
  | nil
  | q (i : Nat) (t : Tr)
  | e (i : Nat) (t : Tr)
  | both (s t : Tr)
def wpTree (P : Program) (ops : Array Oper) (Q : Exit → Act → World → Prop) : Tr → (World → Prop) → Act → World → Prop
  | .nil, _, a, w => Q .normal a w
  | .q i t, S, a, w => ∃ o v, ops[i]? = some o ∧ YieldsIf P ops S o v a ∧ S w ∧ wpTree P ops Q t S (a.put o.dst v) w
  | .e i t, S, a, w => wpOp P ops Q i (fun a' w' => ∃ S' : World → Prop, (∀ w, S' w → S w) ∧ S' w' ∧ wpTree P ops Q t S' a' w') a w
  | .both s t, S, a, w => wpTree P ops Q s S a w ∧ wpTree P ops Q t S a w
def Tr.heads : Tr → List Nat
  | .e i _ => [i]
  | .both s t => s.heads ++ t.heads
  | _ => []
def brB (B : Tr → Array Bool → Bool) (done : Array Bool) : Tr → Bool
  | .e i t => B t (done.setIfInBounds i true)
  | .both s t => brB B done s && brB B done t
  | _ => false
def treeB (ops : Array Oper) : Nat → Tr → Array Bool → Bool
  | 0, .nil, done => Region.ready .any ops done == []
  | 0, _, _ => false
  | _ + 1, .nil, _ => false
  | f + 1, .q i t, done => (Region.ready .any ops done).contains i && Region.free .any ops done i && treeB ops f t (done.setIfInBounds i true)
  | f + 1, t, done => Region.ready .any ops done == t.heads && !t.heads.isEmpty && brB (treeB ops f) done t
theorem tree_branch {B : Tr → Array Bool → Bool} {S : World → Prop} {done : Array Bool} {a : Act} {w : World} {i : Nat} : ∀ {t : Tr}, i ∈ t.heads → brB B done t = true → wpTree P ops Q t S a w →
    ∃ t', B t' (done.setIfInBounds i true) = true ∧ wpOp P ops Q i (fun a' w' => ∃ S' : World → Prop, (∀ w, S' w → S w) ∧ S' w' ∧ wpTree P ops Q t' S' a' w') a w := by
  intro t
  induction t with
  | nil => intro h; cases h
  | q j t _ => intro h; cases h
  | e j t _ =>
    intro h hB hw
    obtain rfl : i = j := by simpa [Tr.heads] using h
    exact ⟨t, hB, hw⟩
  | both s t hs ht =>
    intro h hB hw
    simp only [brB, Bool.and_eq_true] at hB
    rcases List.mem_append.1 h with h | h
    · exact hs h hB.1 hw.1
    · exact ht h hB.2 hw.2
theorem anyS_tree (hsel : Region.noSelect ops = true) (hQ : ∀ c a d v w, Q (.panic c) (Act.put a d v) w → Q (.panic c) a w) :
    ∀ (f : Nat) (t : Tr) (S : World → Prop) (done : Array Bool) (a : Act) (w : World), treeB ops f t done = true → wpTree P ops Q t S a w → wpAnyS P ops Q f S done a w := by
  intro f
  induction f with
  | zero =>
    intro t S done a w hB h
    cases t with
    | nil => exact ⟨by simpa [treeB] using hB, h⟩
    | _ => simp [treeB] at hB
  | succ f ih =>
    have branch : ∀ (t : Tr) (S : World → Prop) (done : Array Bool) (a : Act) (w : World), (Region.ready .any ops done == t.heads && !t.heads.isEmpty && brB (treeB ops f) done t) = true → wpTree P ops Q t S a w → wpAnyS P ops Q (f + 1) S done a w := by
      intro t S done a w hB h
      simp only [Bool.and_eq_true, beq_iff_eq, Bool.not_eq_true'] at hB
      obtain ⟨⟨hr, hne⟩, hb⟩ := hB
      refine ⟨by rw [hr]; intro h0; rw [h0] at hne; simp at hne, fun i hi => ?_⟩
      obtain ⟨t', hB', hw'⟩ := tree_branch (by rw [← hr]; exact hi) hb h
      exact wpOp_mono (fun a' w' ⟨S', h1, h2, h3⟩ => ⟨S', h1, h2, ih t' S' _ _ _ hB' h3⟩) hw'
    intro t S done a w hB h
    cases t with
    | nil => simp [treeB] at hB
    | q i t =>
      simp only [treeB, Bool.and_eq_true] at hB
      obtain ⟨⟨hr, hf⟩, hB'⟩ := hB
      obtain ⟨o, v, ho, hy, hS, hK⟩ := h
      exact wpAnyS_first ho (Region.noSelect_spec hsel) (fun c a w h => hQ c a o.dst v w h) f S done a w (Region.free_spec ho hf) (by simpa using hr) hy hS (ih _ _ _ _ _ hB' hK)
    | e i t => exact branch _ S done a w hB h
    | both s t => exact branch _ S done a w hB h

/-! ### The condition: some resources are kept -/
/-- A list that ends in another one. -/
inductive Suf : List Res → List Res → Prop
  | here {l : List Res} : Suf l l
  | there {x : Res} {l m : List Res} : Suf l m → Suf l (x :: m)
theorem Suf.mem {l m : List Res} (h : Suf l m) {r : Res} (hr : r ∈ l) : r ∈ m := by
  induction h with
  | here => exact hr
  | there _ ih => exact List.mem_cons_of_mem _ (ih hr)
/-- The resources lf are there. -/
def Keeps (B : Nat) (w0 : World) (lf : List Res) (w : World) : Prop := ∃ l, Own B w0 w l ∧ Suf lf l
theorem Suf.trans {l m n : List Res} (h : Suf l m) (k : Suf m n) : Suf l n := by
  induction k with
  | here => exact h
  | there _ ih => exact .there (ih h)
theorem Keeps.less {B : Nat} {w0 : World} {lf lf' : List Res} (h : Suf lf lf') : ∀ w, Keeps B w0 lf' w → Keeps B w0 lf w := fun w ⟨l, H, hs⟩ => ⟨l, H, h.trans hs⟩
theorem s0 {l : List Res} : Suf l l := .here
theorem s1 {x1 : Res} {l : List Res} : Suf l (x1 :: l) := .there .here
theorem s2 {x1 x2 : Res} {l : List Res} : Suf l (x1 :: x2 :: l) := .there s1
theorem s3 {x1 x2 x3 : Res} {l : List Res} : Suf l (x1 :: x2 :: x3 :: l) := .there s2
theorem s4 {x1 x2 x3 x4 : Res} {l : List Res} : Suf l (x1 :: x2 :: x3 :: x4 :: l) := .there s3
theorem s5 {x1 x2 x3 x4 x5 : Res} {l : List Res} : Suf l (x1 :: x2 :: x3 :: x4 :: x5 :: l) := .there s4
theorem s6 {x1 x2 x3 x4 x5 x6 : Res} {l : List Res} : Suf l (x1 :: x2 :: x3 :: x4 :: x5 :: x6 :: l) := .there s5
theorem s7 {x1 x2 x3 x4 x5 x6 x7 : Res} {l : List Res} : Suf l (x1 :: x2 :: x3 :: x4 :: x5 :: x6 :: x7 :: l) := .there s6
theorem s8 {x1 x2 x3 x4 x5 x6 x7 x8 : Res} {l : List Res} : Suf l (x1 :: x2 :: x3 :: x4 :: x5 :: x6 :: x7 :: x8 :: l) := .there s7

/-- What is shown once behind a region. -/
structure Key (n : Nat) (p : Prop) : Prop where
  out : p
/-- May the region be walked so? -/
def treeOk (ops : Array Oper) (t : Tr) : Bool := Region.noSelect ops && treeB ops ops.size t (Array.replicate ops.size false)
/-- A REGION THAT DRAWS ITS ORDER, by the tree; the first k resources may be written. G: what is shown once behind the region. -/
theorem region_tree {id : Nat} {a : Act} {w w0 : World} {B : Nat} {rs : List Res} {l : List Oper} {G : Prop} (tag k : Nat) (t : Tr) (hm : P.follows .mixedOrders = true) (hQ : ∀ c a d v w, Q (.panic c) (Act.put a d v) w → Q (.panic c) a w) (hB : treeOk l.toArray t = true)
    (H : Own B w0 w rs) (hG : Key tag G) (h : Key tag G → ∀ w', Own B w0 w' rs → wpTree P l.toArray Q t (Keeps B w0 (rs.drop k)) a w') : (Code.region id l.toArray true).wp P Q a w := by
  simp only [treeOk, Bool.and_eq_true] at hB
  exact wp_region_any hm (wpAny_of_S _ _ _ _ _ (anyS_tree hB.1 hQ _ t _ _ a w.drew hB.2 (h hG _ H.drew)))

theorem region_tree0 {id : Nat} {a : Act} {w w0 : World} {B : Nat} {rs : List Res} {l : List Oper} {G : Prop} (tag : Nat) (t : Tr) (hm : P.follows .mixedOrders = true) (hQ : ∀ c a d v w, Q (.panic c) (Act.put a d v) w → Q (.panic c) a w) (hB : treeOk l.toArray t = true)
    (H : Own B w0 w rs) (hG : Key tag G) (h : Key tag G → ∀ w', Own B w0 w' rs → wpTree P l.toArray Q t (Keeps B w0 rs) a w') : (Code.region id l.toArray true).wp P Q a w   := region_tree tag 0 t hm hQ hB H hG h

/-! ### The steps -/
section
variable {S : World → Prop} {t s : Tr} {i : Nat} {a : Act} {w : World} {o : Oper}
/-- An operation of these kinds yields a value, if it does not fail: it enters no function. -/
def quietB : Op → Bool
  | .move _ | .assign _ | .pick .. | .load .. | .binOp .. | .unOp .. | .build .. | .fieldAddr .. | .field .. | .indexAddr .. | .index .. | .extract .. | .slice .. | .convert .. | .lookup .. | .makeFunc .. | .makeInterface .. => true
  | .call { callee := .builtin .len, .. } | .call { callee := .builtin .cap, .. } | .call { callee := .builtin .min, .. } | .call { callee := .builtin .max, .. } => true
  | _ => false
theorem run_value {w w' : World} {s : Sem Value} {n : Next} (h : (do pure (Next.value (← s)) : Sem Next).run P w = .ok n w') : ∃ u, n = .value u := by
  rw [Sem.run_bind] at h
  cases hs : s.run P w with
  | ok u w1 => rw [hs] at h; simp only [Result.andThen_ok, Sem.run_pure] at h; exact ⟨u, by injection h with h _; exact h.symm⟩
  | halt x w1 => rw [hs] at h; simp [Result.andThen] at h
theorem quietB_value {w w' : World} {ρ : Operand → Value} {n : Next} (hb : quietB o.op = true) (h : (execOp ρ o).run P w = .ok n w') : ∃ u, n = .value u := by
  obtain ⟨dst, op, type, pos, after, guard⟩ := o
  cases op
  case move x => simp only [execOp, Sem.run_pure] at h; injection h with h _; exact ⟨_, h.symm⟩
  case assign x => simp only [execOp, Sem.run_pure] at h; injection h with h _; exact ⟨_, h.symm⟩
  case pick c x y => exact run_value (s := do if ← asBool (ρ c) then pure (ρ x) else pure (ρ y)) (by
    rw [← h]; simp only [execOp]
    simp only [Sem.run_bind]
    cases (asBool (ρ c)).run P w with
    | ok t w1 => cases t <;> simp [Result.andThen]
    | halt x w1 => simp [Result.andThen])
  case call c =>
    obtain ⟨callee, args, tys⟩ := c
    cases callee with
    | builtin b =>
      cases b <;> first | (simp [quietB] at hb; done) | exact run_value h
    | _ => simp [quietB] at hb
  all_goals first | (simp [quietB] at hb; done) | exact run_value h
/-- Taken first: the goal is the operation alone. -/
theorem tree_quiet (hS : S w) (ho : ops[i]? = some o) (hb : quietB o.op = true) (hw : Region.wanted o (yielded ops a.tmps) = true)
    (h : ∀ K : Act → Prop, (∀ a, wpTree P ops Q t S a w → K a) → o.quiet P a S K) : wpTree P ops Q (.q i t) S a w := by
  obtain ⟨v, h1, h2⟩ := h (fun a => wpTree P ops Q t S a w) (fun _ h => h)
  refine ⟨o, v, ho, .inl ⟨hw, fun w' hw' => ?_⟩, hS, h2⟩
  have h3 := h1 w' hw'
  unfold Oper.quietAt at h3
  cases hr : (execOp a.eval o).run P w' with
  | ok n w'' =>
    obtain ⟨u, rfl⟩ := quietB_value hb hr
    rw [hr] at h3
    obtain ⟨rfl, rfl⟩ := h3
    rfl
  | halt x w'' => rw [hr] at h3; exact h3.elim
/-- Taken first, its value given (a call of a function that the model has itself). -/
theorem tree_take (v : Value) (hS : S w) (ho : ops[i]? = some o) (hw : Region.wanted o (yielded ops a.tmps) = true) (hy : ∀ w', (execOp a.eval o).run P w' = .ok (.value v) w')
    (h : wpTree P ops Q t S (a.put o.dst v) w) : wpTree P ops Q (.q i t) S a w := ⟨o, v, ho, .inl ⟨hw, fun w' _ => hy w'⟩, hS, h⟩
theorem tree_skip (hS : S w) (ho : ops[i]? = some o) (hw : Region.wanted o (yielded ops a.tmps) = false) (h : wpTree P ops Q t S (a.put o.dst undef) w) : wpTree P ops Q (.q i t) S a w := ⟨o, undef, ho, .inr ⟨hw, rfl⟩, hS, h⟩
/-- One that comes up: the goal is the operation alone. -/
theorem tree_one (ho : ops[i]? = some o) (hw : Region.wanted o (yielded ops a.tmps) = true) (h : ∀ K : Act → World → Prop, (∀ a w', S w' → wpTree P ops Q t S a w' → K a w') → o.wp P a w K Q) :
    wpTree P ops Q (.e i t) S a w := by
  show wpOp P ops Q i _ a w
  unfold wpOp
  simp only [ho, hw, if_true]
  exact .inl (h _ fun a w' h1 h2 => ⟨S, fun _ h => h, h1, h2⟩)
theorem tree_one_skip (hS : S w) (ho : ops[i]? = some o) (hw : Region.wanted o (yielded ops a.tmps) = false) (h : wpTree P ops Q t S (a.put o.dst undef) w) : wpTree P ops Q (.e i t) S a w := by
  show wpOp P ops Q i _ a w
  unfold wpOp
  simp only [ho, hw, Bool.false_eq_true, if_false]
  exact ⟨S, fun _ h => h, hS, h⟩
theorem tree_both (h1 : wpTree P ops Q s S a w) (h2 : wpTree P ops Q t S a w) : wpTree P ops Q (.both s t) S a w := ⟨h1, h2⟩
theorem tree_nil (h : Q .normal a w) : wpTree P ops Q .nil S a w := h
end
end Go.Proofs.Ytlhmjhildlnokaa
