/-
  A region that draws its order, in which calls that make memory are taken first: a call that answers the same value in every world that keeps what is known, and leaves all that was there as it was, may be taken ahead of all that it doesn't wait for. Nothing of the program stands here.
-/
import Derived.Test.YtlhmjhildlnokaaReg
namespace Go.Proofs.Ytlhmjhildlnokaa
set_option linter.unusedVariables false
open Go.RowKit
variable {P : Program} {ops : Array Oper} {Q : Exit → Act → World → Prop}

theorem Ext.refl (w : World) : Ext w w := Below.refl _ _
theorem Ext.trans {w w' w'' : World} (h : Ext w w') (h' : Ext w' w'') : Ext w w'' := Below.trans h (h'.mono h.size)
abbrev noQ : Exit → Act → World → Prop := fun _ _ _ => False
/-- An operation that answers v in every world that meets S, and leaves what was there as it was. -/
def Calm (P : Program) (ops : Array Oper) (S : World → Prop) (o : Oper) (v : Value) (a : Act) : Prop :=
  Region.wanted o (yielded ops a.tmps) = true ∧ ∀ w, S w → o.wp P a w (fun a' w' => a' = a.put o.dst v ∧ Ext w w') noQ
theorem Calm.less {S S' : World → Prop} {o : Oper} {v : Value} {a : Act} (hy : Calm P ops S o v a) (h : ∀ w, S' w → S w) : Calm P ops S' o v a := ⟨hy.1, fun w hw => hy.2 w (h w hw)⟩
theorem letsOut_none (h : LetsOut noQ) : False := by
  obtain ⟨_, _, h⟩ := h
  exact h
theorem wp_noQ {o : Oper} {a : Act} {w : World} {K : Act → World → Prop} (h : o.wp P a w K noQ) : o.wp P a w K Q := by
  unfold Oper.wp at *
  generalize (execOp a.eval o).run P w = r at *
  cases r with
  | ok n w' =>
    cases n <;> simp only [Oper.upon] at h ⊢ <;>
      first
        | exact h
        | exact Calls.mono h (fun e w'' he => by cases e <;> first | exact he | exact he.elim | exact (letsOut_none he).elim)
  | halt x w' => cases x <;> simp only [Oper.upon] at h ⊢ <;> first | exact h | exact h.elim
theorem Calm.wpOp {S : World → Prop} {i : Nat} {o : Oper} {v : Value} {a : Act} (hi : ops[i]? = some o) (hy : Calm P ops S o v a) {K : Act → World → Prop} {w : World} (hS : S w) (h : ∀ w', Ext w w' → K (a.put o.dst v) w') : wpOp P ops Q i K a w := by
  unfold Go.wpOp
  simp only [hi, hy.1, if_true]
  exact .inl (Oper.wp_mono (fun a' w' ⟨h1, h2⟩ => by rw [h1]; exact h w' h2) (wp_noQ (hy.2 w hS)))
/-- What it doesn't look at makes no difference to it. -/
theorem Calm.put {S : World → Prop} {o : Oper} {v : Value} {a : Act} (hy : Calm P ops S o v a) (hs : ∀ cs b, o.op ≠ .select cs b) (dst : Option Tmp) (u : Value) (h : ∀ d, dst = some d → d ∉ o.looksAt ops) (hd : ∀ d, o.dst = some d → dst ≠ some d) : Calm P ops S o v (a.put dst u) := by
  refine ⟨by rw [wanted_put o a dst u h]; exact hy.1, fun w hw => ?_⟩
  have h2 := hy.2 w hw
  unfold Oper.wp at *
  rw [execOp_put o hs a dst u h]
  generalize (execOp a.eval o).run P w = r at *
  have key : ∀ z, a.put o.dst z = a.put o.dst v → (a.put dst u).put o.dst z = (a.put dst u).put o.dst v := fun z hz => by
    rw [← Act.put_comm a z u hd, ← Act.put_comm a v u hd, hz]
  cases r with
  | ok n w' =>
    cases n <;> simp only [Oper.upon] at h2 ⊢
    case value z => exact ⟨key z h2.1, h2.2⟩
    case skip => exact ⟨key _ h2.1, h2.2⟩
    case defer d =>
      exfalso
      have := congrArg (fun x : Act => x.defers.length) h2.1
      cases hdst : o.dst <;> simp [hdst, Act.put] at this
    case enter f args =>
      refine Calls.mono h2 fun e w'' he => ?_
      cases e with
      | returned z => exact ⟨key z he.1, he.2⟩
      | panicked c => exact he
      | outgrown => exact he
    case row row args => exact Rows.mono h2 fun z w'' he => ⟨key z he.1, he.2⟩
    all_goals exact h2
  | halt x w' => cases x <;> simp only [Oper.upon] at h2 ⊢ <;> exact h2
theorem Calm.defers {S : World → Prop} {o : Oper} {v : Value} {a : Act} (hy : Calm P ops S o v a) (d : Deferred) : Calm P ops S o v { a with defers := d :: a.defers } := by
  refine ⟨hy.1, fun w hw => ?_⟩
  have h2 := hy.2 w hw
  unfold Oper.wp at *
  have hev : execOp ({ a with defers := d :: a.defers } : Act).eval o = execOp a.eval o := rfl
  rw [hev]
  generalize (execOp a.eval o).run P w = r at *
  have key : ∀ z, a.put o.dst z = a.put o.dst v → ({ a with defers := d :: a.defers } : Act).put o.dst z = ({ a with defers := d :: a.defers } : Act).put o.dst v := fun z hz => by
    rw [← Act.put_defers, ← Act.put_defers, hz]
  cases r with
  | ok n w' =>
    cases n <;> simp only [Oper.upon] at h2 ⊢
    case value z => exact ⟨key z h2.1, h2.2⟩
    case skip => exact ⟨key _ h2.1, h2.2⟩
    case defer d' =>
      exfalso
      have := congrArg (fun x : Act => x.defers.length) h2.1
      cases hdst : o.dst <;> simp [hdst, Act.put] at this
    case enter f args =>
      refine Calls.mono h2 fun e w'' he => ?_
      cases e with
      | returned z => exact ⟨key z he.1, he.2⟩
      | panicked c => exact he
      | outgrown => exact he
    case row row args => exact Rows.mono h2 fun z w'' he => ⟨key z he.1, he.2⟩
    all_goals exact h2
  | halt x w' => cases x <;> simp only [Oper.upon] at h2 ⊢ <;> exact h2
/-- One operation j that is apart from a calm one i. -/
theorem wpOp_putCalm {S : World → Prop} {j : Nat} {oi oj : Oper} {v : Value} (hj : ops[j]? = some oj) (hap : oi.apart ops oj = true)
    (hsi : ∀ cs b, oi.op ≠ .select cs b) (hsj : ∀ cs b, oj.op ≠ .select cs b)
    (hQ : ∀ c a w, Q (.panic c) (a.put oi.dst v) w → Q (.panic c) a w) {K : Act → World → Prop} {a : Act} {w : World}
    (hy : Calm P ops S oi v a) (h : wpOp P ops Q j K (a.put oi.dst v) w) :
    wpOp P ops Q j (fun a' w' => Calm P ops S oi v a' ∧ K (a'.put oi.dst v) w') a w := by
  obtain ⟨h1, h2, h3⟩ := Oper.apart_spec hap
  have keep : ∀ (a : Act), Calm P ops S oi v a → ∀ u, Calm P ops S oi v (a.put oj.dst u) := fun a hy u => hy.put hsi oj.dst u h3 h2
  unfold wpOp at *
  simp only [hj] at *
  rw [wanted_put oj a oi.dst v h1] at h
  split
  · rename_i hw
    simp only [hw, if_true] at h
    rcases h with h | ⟨hasks, hlets⟩
    case inr => exact .inr ⟨by unfold Oper.asks at *; rw [execOp_put oj hsj a oi.dst v h1] at hasks; exact hasks, hlets⟩
    refine .inl ?_
    unfold Oper.wp at *
    rw [execOp_put oj hsj a oi.dst v h1] at h
    generalize (execOp a.eval oj).run P w = r at *
    cases r with
    | ok n w' =>
      cases n <;> simp only [Oper.upon] at h ⊢
      case value u => exact ⟨keep a hy u, by rw [← Act.put_comm a v u h2]; exact h⟩
      case skip => exact ⟨keep a hy _, by rw [← Act.put_comm a v undef h2]; exact h⟩
      case defer d =>
        refine ⟨keep _ (hy.defers d) _, ?_⟩
        rw [← Act.put_comm _ v undef h2, ← Act.put_defers]
        exact h
      case enter f args =>
        refine Calls.mono h fun e w'' he => ?_
        cases e with
        | returned u => exact ⟨keep a hy u, by rw [← Act.put_comm a v u h2]; exact he⟩
        | panicked c => exact hQ _ _ _ he
        | outgrown => exact he
      case row row args => exact Rows.mono h fun u w'' he => ⟨keep a hy u, by rw [← Act.put_comm a v u h2]; exact he⟩
    | halt x w' =>
      cases x <;> simp only [Oper.upon] at h ⊢
      case panic u => exact hQ _ _ _ h
  · rename_i hw
    simp only [hw] at h
    exact ⟨keep a hy _, by rw [← Act.put_comm a v undef h2]; exact h⟩

/-- A condition that blocks more do not break. -/
def Grows (S : World → Prop) : Prop := ∀ w w', S w → Ext w w' → S w'
/-- An operation that waits for all others. -/
def closer (ops : Array Oper) (j : Nat) : Bool :=
  match ops[j]? with
  | none => false
  | some o => (List.range ops.size).all fun k => k == j || o.after.any fun e => Region.binds .any e && e.on == k
theorem closer_not {done : Array Bool} {i j : Nat} (hj : j ∈ Region.ready .any ops done) (hi : i ∈ Region.ready .any ops done) (hji : j ≠ i) : closer ops j = false := by
  cases hc : closer ops j with
  | false => rfl
  | true =>
    obtain ⟨_, x, hx, hall⟩ := mem_ready.1 hj
    obtain ⟨h0, y, hy, _⟩ := mem_ready.1 hi
    unfold closer at hc
    rw [hx] at hc
    have hlt : i < ops.size := (Array.getElem?_eq_some_iff.1 hy).1
    have := List.all_eq_true.1 hc i (List.mem_range.2 hlt)
    rcases Bool.or_eq_true_iff.1 this with h | h
    · exact absurd (by simpa using h) (Ne.symm hji)
    · obtain ⟨e, he, h⟩ := Array.any_eq_true'.1 h
      simp only [Bool.and_eq_true, beq_iff_eq] at h
      have h1 := hall e he h.1
      rw [h.2] at h1
      rcases Nat.lt_or_ge i done.size with h' | h'
      · simp [h'] at h0 h1; rw [h0] at h1; cases h1
      · simp [Array.getElem?_eq_none h'] at h1
/-- Does j wait for i? -/
def waits1 (ops : Array Oper) (j i : Nat) : Bool :=
  match ops[j]? with
  | none => false
  | some o => o.after.any fun e => Region.binds .any e && e.on == i
/-- The same, itself or through others. -/
def waitsN (ops : Array Oper) : Nat → Nat → Nat → Bool
  | 0, _, _ => false
  | n + 1, j, i => waits1 ops j i || (List.range ops.size).any fun m => waits1 ops j m && waitsN ops n m i
/-- An operation that waits for all others, itself or through others. -/
def closerP (ops : Array Oper) (j : Nat) : Bool := (List.range ops.size).all fun k => k == j || waitsN ops 2 j k
theorem closer_closerP {j : Nat} (h : closer ops j = true) : closerP ops j = true := by
  unfold closer at h
  unfold closerP
  cases ho : ops[j]? with
  | none => rw [ho] at h; cases h
  | some o =>
    rw [ho] at h
    rw [List.all_eq_true] at h ⊢
    intro k hk
    have := h k hk
    simp only [Bool.or_eq_true] at this ⊢
    refine this.imp id fun h => ?_
    simp only [waitsN, waits1, ho, Bool.or_eq_true]
    exact .inl h
/-- What one that has come up waits for has come up. -/
def Down (ops : Array Oper) (done : Array Bool) : Prop := ∀ k m, done.getD k false = true → waits1 ops k m = true → done.getD m false = true
theorem down_start (ops : Array Oper) (n : Nat) : Down ops (Array.replicate n false) := by
  intro k m h
  rcases Nat.lt_or_ge k n with h' | h'
  · simp [h'] at h
  · simp [h'] at h
theorem ready_waits {done : Array Bool} {j m : Nat} (hj : j ∈ Region.ready .any ops done) (h : waits1 ops j m = true) : done.getD m false = true := by
  obtain ⟨_, x, hx, hall⟩ := mem_ready.1 hj
  unfold waits1 at h
  rw [hx] at h
  obtain ⟨e, he, h⟩ := Array.any_eq_true'.1 h
  simp only [Bool.and_eq_true, beq_iff_eq] at h
  have h1 := hall e he h.1
  rwa [h.2] at h1
theorem getD_set_false {done : Array Bool} {i k : Nat} (h : (done.setIfInBounds i true).getD k false = true) : k = i ∨ done.getD k false = true := by
  by_cases hik : i = k
  · exact .inl hik.symm
  · rw [getD_set_ne false hik] at h; exact .inr h
theorem Down.set {done : Array Bool} {i : Nat} (hD : Down ops done) (hi : i ∈ Region.ready .any ops done) : Down ops (done.setIfInBounds i true) := by
  intro k m h hw
  refine getD_set_true ?_
  rcases getD_set_false h with rfl | h
  · exact ready_waits hi hw
  · exact hD k m h hw
theorem down_waits {done : Array Bool} (hD : Down ops done) : ∀ (n j i : Nat), (∀ m, waits1 ops j m = true → done.getD m false = true) → waitsN ops n j i = true → done.getD i false = true
  | 0, _, _, _, h => by cases h
  | n + 1, j, i, hj, h => by
    simp only [waitsN, Bool.or_eq_true, List.any_eq_true, Bool.and_eq_true] at h
    rcases h with h | ⟨m, _, h1, h2⟩
    · exact hj i h
    · exact down_waits hD n m i (fun q hq => hD m q (hj m h1) hq) h2
theorem closerP_not {done : Array Bool} {i j : Nat} (hD : Down ops done) (hj : j ∈ Region.ready .any ops done) (hi : i ∈ Region.ready .any ops done) (hji : j ≠ i) : closerP ops j = false := by
  cases hc : closerP ops j with
  | false => rfl
  | true =>
    obtain ⟨h0, y, hy, _⟩ := mem_ready.1 hi
    have hlt : i < ops.size := (Array.getElem?_eq_some_iff.1 hy).1
    have := List.all_eq_true.1 hc i (List.mem_range.2 hlt)
    rcases Bool.or_eq_true_iff.1 this with h | h
    · exact absurd (by simpa using h) (Ne.symm hji)
    · have h1 := down_waits hD 2 j i (fun m hm => ready_waits hj hm) h
      rcases Nat.lt_or_ge i done.size with h' | h'
      · simp [h'] at h0 h1; rw [h0] at h1; cases h1
      · simp [Array.getElem?_eq_none h'] at h1
/-- Whatever order is picked from here on, in this world or in one with blocks more. -/
def wpAnyC (P : Program) (ops : Array Oper) (Q : Exit → Act → World → Prop) (S : World → Prop) : Nat → Array Bool → Act → World → Prop
  | 0, done, a, w => Region.ready .any ops done = [] ∧ ∀ w', Ext w w' → Q .normal a w'
  | f + 1, done, a, w => (Region.ready .any ops done = [] → ∀ w', Ext w w' → Q .normal a w') ∧
    ∀ i ∈ Region.ready .any ops done, ∀ w2, Ext w w2 → wpOp P ops Q i (fun a' w' => (closerP ops i = true ∨ S w') ∧ wpAnyC P ops Q S f (done.setIfInBounds i true) a' w') a w2
variable {S : World → Prop}
theorem wpAny_of_C : ∀ (f : Nat) (done : Array Bool) (a : Act) (w : World), wpAnyC P ops Q S f done a w → wpAny P .any ops Q f done a w
  | 0, _, _, w, h => ⟨h.1, h.2 w (Ext.refl w)⟩
  | f + 1, _, _, w, h => ⟨fun hr => h.1 hr w (Ext.refl w), fun i hi => wpOp_mono (fun a' w' ⟨_, h'⟩ => wpAny_of_C f _ a' w' h') (h.2 i hi w (Ext.refl w))⟩
theorem wpAnyC_ext : ∀ (f : Nat) (done : Array Bool) (a : Act) (w w' : World), wpAnyC P ops Q S f done a w → Ext w w' → wpAnyC P ops Q S f done a w'
  | 0, _, _, _, _, h, hx => ⟨h.1, fun w2 h2 => h.2 w2 (hx.trans h2)⟩
  | _ + 1, _, _, _, _, h, hx => ⟨fun hr w2 h2 => h.1 hr w2 (hx.trans h2), fun i hi w2 h2 => h.2 i hi w2 (hx.trans h2)⟩
/-- What may be taken first: an operation that yields a value, or a calm one. -/
def First (P : Program) (ops : Array Oper) (S : World → Prop) (o : Oper) (v : Value) (a : Act) : Prop := YieldsIf P ops S o v a ∨ Calm P ops S o v a
theorem First.wpOp {i : Nat} {o : Oper} {v : Value} {a : Act} (hi : ops[i]? = some o) (hy : First P ops S o v a) {K : Act → World → Prop} {w : World} (hS : S w) (h : ∀ w', Ext w w' → K (a.put o.dst v) w') : wpOp P ops Q i K a w := by
  rcases hy with hy | hy
  · exact hy.wpOp hi hS (h w (Ext.refl w))
  · exact hy.wpOp hi hS h
theorem wpOp_putFirst {j : Nat} {oi oj : Oper} {v : Value} (hj : ops[j]? = some oj) (hap : oi.apart ops oj = true)
    (hsi : ∀ cs b, oi.op ≠ .select cs b) (hsj : ∀ cs b, oj.op ≠ .select cs b)
    (hQ : ∀ c a w, Q (.panic c) (a.put oi.dst v) w → Q (.panic c) a w) {K : Act → World → Prop} {a : Act} {w : World}
    (hy : First P ops S oi v a) (h : wpOp P ops Q j K (a.put oi.dst v) w) :
    wpOp P ops Q j (fun a' w' => First P ops S oi v a' ∧ K (a'.put oi.dst v) w') a w := by
  rcases hy with hy | hy
  · exact wpOp_mono (fun a' w' h => ⟨.inl h.1, h.2⟩) (wpOp_putIf hj hap hsi hsj hQ hy h)
  · exact wpOp_mono (fun a' w' h => ⟨.inr h.1, h.2⟩) (wpOp_putCalm hj hap hsi hsj hQ hy h)
theorem wpAnyC_first (hG : Grows S) {i : Nat} {o : Oper} {v : Value} (ho : ops[i]? = some o) (hsel : ∀ (j : Nat) (x : Oper) cs b, ops[j]? = some x → x.op ≠ .select cs b)
    (hQ : ∀ c a w, Q (.panic c) (a.put o.dst v) w → Q (.panic c) a w) :
    ∀ (f : Nat) (done : Array Bool) (a : Act) (w : World),
      (∀ j x, ops[j]? = some x → j ≠ i → done.getD j true = false → (∀ e ∈ x.after, Region.binds .any e = true → e.on ≠ i) → o.apart ops x = true) →
      Down ops done → i ∈ Region.ready .any ops done → First P ops S o v a → S w → wpAnyC P ops Q S f (done.setIfInBounds i true) (a.put o.dst v) w → wpAnyC P ops Q S (f + 1) done a w := by
  intro f
  induction f with
  | zero =>
    intro done a w _ hD hr hy hS H
    refine ⟨fun h => (by rw [h] at hr; cases hr), fun j hj w2 hx => ?_⟩
    by_cases hji : j = i
    · subst hji; exact hy.wpOp ho (hG _ _ hS hx) fun w3 h3 => ⟨.inr (hG _ _ hS (hx.trans h3)), wpAnyC_ext _ _ _ _ _ H (hx.trans h3)⟩
    · have := ready_mono hj hji
      rw [H.1] at this
      cases this
  | succ f ih =>
    intro done a w hfree hD hr hy hS H
    refine ⟨fun h => (by rw [h] at hr; cases hr), fun j hj w2 hx => ?_⟩
    by_cases hji : j = i
    · subst hji; exact hy.wpOp ho (hG _ _ hS hx) fun w3 h3 => ⟨.inr (hG _ _ hS (hx.trans h3)), wpAnyC_ext _ _ _ _ _ H (hx.trans h3)⟩
    · have h1 := H.2 j (ready_mono hj hji) w2 hx
      obtain ⟨hjun, x, hxo, hall⟩ := mem_ready.1 hj
      have hnot : ∀ e ∈ x.after, Region.binds .any e = true → e.on ≠ i := fun e he hb heq => by
        have h1 := hall e he hb
        have h0 := (mem_ready.1 hr).1
        rw [heq] at h1
        rcases Nat.lt_or_ge i done.size with h' | h'
        · simp [h'] at h0 h1; rw [h0] at h1; cases h1
        · simp [Array.getElem?_eq_none h'] at h1
      have h2 := wpOp_putFirst hxo (hfree j x hxo hji hjun hnot) (fun cs b => hsel i o cs b ho) (fun cs b => hsel j x cs b hxo) hQ hy h1
      refine wpOp_mono (fun a' w' h3 => ?_) h2
      obtain ⟨hy', hS', hH⟩ := h3
      have hS' := hS'.resolve_left (by rw [closerP_not hD hj hr hji]; simp)
      refine ⟨.inr hS', ih (done.setIfInBounds j true) a' w' ?_ (hD.set hj) (ready_mono hr (Ne.symm hji)) hy' hS' ?_⟩
      · intro k y hk hki hkun hno
        refine hfree k y hk hki ?_ hno
        by_cases hjk : j = k
        · subst hjk; exact hjun
        · rw [getD_set_ne true hjk] at hkun; exact hkun
      · rw [Array.setIfInBounds_comm _ _ hji]; exact hH

/-- The tree of an order, as in Reg; number i behind 'q' may be a calm call. -/
def wpTreeC (P : Program) (ops : Array Oper) (Q : Exit → Act → World → Prop) : Tr → (World → Prop) → Act → World → Prop
  | .nil, _, a, w => ∀ w', Ext w w' → Q .normal a w'
  | .q i t, S, a, w => ∃ o v, ops[i]? = some o ∧ First P ops S o v a ∧ S w ∧ wpTreeC P ops Q t S (a.put o.dst v) w
  | .e i t, S, a, w => ∀ w2, Ext w w2 → wpOp P ops Q i (fun a' w' => (closerP ops i = true ∨ S w') ∧ wpTreeC P ops Q t S a' w') a w2
  | .both s t, S, a, w => wpTreeC P ops Q s S a w ∧ wpTreeC P ops Q t S a w
theorem treeC_branch {B : Tr → Array Bool → Bool} {done : Array Bool} {a : Act} {w : World} {i : Nat} : ∀ {t : Tr}, i ∈ t.heads → brB B done t = true → wpTreeC P ops Q t S a w →
    ∃ t', B t' (done.setIfInBounds i true) = true ∧ ∀ w2, Ext w w2 → wpOp P ops Q i (fun a' w' => (closerP ops i = true ∨ S w') ∧ wpTreeC P ops Q t' S a' w') a w2 := by
  intro t
  induction t with
  | nil => intro h; cases h
  | q j t _ => intro h; cases h
  | e j t _ =>
    intro h hB hw
    obtain rfl : i = j := by simpa [Tr.heads] using h
    exact ⟨t, hB, hw⟩
  | both s t hs ht =>
    intro h hB hw
    simp only [brB, Bool.and_eq_true] at hB
    rcases List.mem_append.1 h with h | h
    · exact hs h hB.1 hw.1
    · exact ht h hB.2 hw.2
theorem anyC_tree (hG : Grows S) (hsel : Region.noSelect ops = true) (hQ : ∀ c a d v w, Q (.panic c) (Act.put a d v) w → Q (.panic c) a w) :
    ∀ (f : Nat) (t : Tr) (done : Array Bool) (a : Act) (w : World), treeB ops f t done = true → Down ops done → wpTreeC P ops Q t S a w → wpAnyC P ops Q S f done a w := by
  intro f
  induction f with
  | zero =>
    intro t done a w hB hD h
    cases t with
    | nil => exact ⟨by simpa [treeB] using hB, h⟩
    | _ => simp [treeB] at hB
  | succ f ih =>
    have branch : ∀ (t : Tr) (done : Array Bool) (a : Act) (w : World), (Region.ready .any ops done == t.heads && !t.heads.isEmpty && brB (treeB ops f) done t) = true → Down ops done → wpTreeC P ops Q t S a w → wpAnyC P ops Q S (f + 1) done a w := by
      intro t done a w hB hD h
      simp only [Bool.and_eq_true, beq_iff_eq, Bool.not_eq_true'] at hB
      obtain ⟨⟨hr, hne⟩, hb⟩ := hB
      refine ⟨by rw [hr]; intro h0; rw [h0] at hne; simp at hne, fun i hi w2 hx => ?_⟩
      obtain ⟨t', hB', hw'⟩ := treeC_branch (by rw [← hr]; exact hi) hb h
      exact wpOp_mono (fun a' w' ⟨h1, h3⟩ => ⟨h1, ih t' _ _ _ hB' (hD.set hi) h3⟩) (hw' w2 hx)
    intro t done a w hB hD h
    cases t with
    | nil => simp [treeB] at hB
    | q i t =>
      simp only [treeB, Bool.and_eq_true] at hB
      obtain ⟨⟨hr, hf⟩, hB'⟩ := hB
      obtain ⟨o, v, ho, hy, hS, hK⟩ := h
      exact wpAnyC_first hG ho (Region.noSelect_spec hsel) (fun c a w h => hQ c a o.dst v w h) f done a w (Region.free_spec ho hf) hD (by simpa using hr) hy hS (ih _ _ _ _ hB' (hD.set (by simpa using hr)) hK)
    | e i t => exact branch _ done a w hB hD h
    | both s t => exact branch _ done a w hB hD h

theorem Suf.sub {l m : List Res} (h : Suf l m) : l.Sublist m := by
  induction h with
  | here => exact .refl _
  | there _ ih => exact .cons _ ih
theorem keeps_grows {B : Nat} {w0 : World} {lf : List Res} : Grows (Keeps B w0 lf) := fun w w' ⟨l, H, hs⟩ hx => ⟨l, H.ext hx, hs⟩
/-- A REGION THAT DRAWS ITS ORDER, by the tree; the first k resources may be written. -/
theorem region_treeC {id : Nat} {a : Act} {w w0 : World} {B : Nat} {rs : List Res} {l : List Oper} {G : Prop} (tag k : Nat) (t : Tr) (hm : P.follows .mixedOrders = true) (hQ : ∀ c a d v w, Q (.panic c) (Act.put a d v) w → Q (.panic c) a w) (hB : treeOk l.toArray t = true)
    (H : Own B w0 w rs) (hG : Key tag G) (h : Key tag G → ∀ w', Own B w0 w' rs → wpTreeC P l.toArray Q t (Keeps B w0 (rs.drop k)) a w') : (Code.region id l.toArray true).wp P Q a w := by
  simp only [treeOk, Bool.and_eq_true] at hB
  exact wp_region_any hm (wpAny_of_C _ _ _ _ (anyC_tree keeps_grows hB.1 hQ _ t _ a w.drew hB.2 (down_start _ _) (h hG _ H.drew)))
theorem region_treeC0 {id : Nat} {a : Act} {w w0 : World} {B : Nat} {rs : List Res} {l : List Oper} {G : Prop} (tag : Nat) (t : Tr) (hm : P.follows .mixedOrders = true) (hQ : ∀ c a d v w, Q (.panic c) (Act.put a d v) w → Q (.panic c) a w) (hB : treeOk l.toArray t = true)
    (H : Own B w0 w rs) (hG : Key tag G) (h : Key tag G → ∀ w', Own B w0 w' rs → wpTreeC P l.toArray Q t (Keeps B w0 rs) a w') : (Code.region id l.toArray true).wp P Q a w := region_treeC tag 0 t hm hQ hB H hG h

/-! ### The steps -/
section
variable {t s : Tr} {i : Nat} {a : Act} {w w0 : World} {o : Oper} {B : Nat} {lf l : List Res}
theorem treeC_quiet (hS : S w) (ho : ops[i]? = some o) (hb : quietB o.op = true) (hw : Region.wanted o (yielded ops a.tmps) = true)
    (h : ∀ K : Act → Prop, (∀ a, wpTreeC P ops Q t S a w → K a) → o.quiet P a S K) : wpTreeC P ops Q (.q i t) S a w := by
  obtain ⟨v, h1, h2⟩ := h (fun a => wpTreeC P ops Q t S a w) (fun _ h => h)
  refine ⟨o, v, ho, .inl (.inl ⟨hw, fun w' hw' => ?_⟩), hS, h2⟩
  have h3 := h1 w' hw'
  unfold Oper.quietAt at h3
  cases hr : (execOp a.eval o).run P w' with
  | ok n w'' =>
    obtain ⟨u, rfl⟩ := quietB_value hb hr
    rw [hr] at h3
    obtain ⟨rfl, rfl⟩ := h3
    rfl
  | halt x w'' => rw [hr] at h3; exact h3.elim
theorem treeC_skip (hS : S w) (ho : ops[i]? = some o) (hw : Region.wanted o (yielded ops a.tmps) = false) (h : wpTreeC P ops Q t S (a.put o.dst undef) w) : wpTreeC P ops Q (.q i t) S a w := ⟨o, undef, ho, .inl (.inr ⟨hw, rfl⟩), hS, h⟩
/-- A call that is taken first. -/
theorem treeC_call {v : Value} (hS : Keeps B w0 lf w) (ho : ops[i]? = some o) (hw : Region.wanted o (yielded ops a.tmps) = true)
    (h : ∀ w', Own B w0 w' lf → ∀ K : Act → World → Prop, (∀ w2, Ext w' w2 → K (a.put o.dst v) w2) → o.wp P a w' K noQ) (hk : wpTreeC P ops Q t (Keeps B w0 lf) (a.put o.dst v) w) : wpTreeC P ops Q (.q i t) (Keeps B w0 lf) a w :=
  ⟨o, v, ho, .inr ⟨hw, fun w' ⟨l, H, hs⟩ => h w' (H.sub hs.sub) _ fun w2 h2 => ⟨rfl, h2⟩⟩, hS, hk⟩
/-- One that comes up: the goal is the operation alone. -/
theorem treeC_one (H : Own B w0 w l) (ho : ops[i]? = some o) (hw : Region.wanted o (yielded ops a.tmps) = true) (h : ∀ w2, Own B w0 w2 l → ∀ K : Act → World → Prop, (∀ a w', S w' → wpTreeC P ops Q t S a w' → K a w') → o.wp P a w2 K Q) :
    wpTreeC P ops Q (.e i t) S a w := by
  intro w2 hx
  show wpOp P ops Q i _ a w2
  unfold wpOp
  simp only [ho, hw, if_true]
  exact .inl (h w2 (H.ext hx) _ fun a w' h1 h2 => ⟨.inr h1, h2⟩)
/-- The last one, that waits for all others: nothing need be kept. -/
theorem treeC_last (hc : closerP ops i = true) (H : Own B w0 w l) (ho : ops[i]? = some o) (hw : Region.wanted o (yielded ops a.tmps) = true) (h : ∀ w2, Own B w0 w2 l → ∀ K : Act → World → Prop, (∀ a w', wpTreeC P ops Q t S a w' → K a w') → o.wp P a w2 K Q) :
    wpTreeC P ops Q (.e i t) S a w := by
  intro w2 hx
  show wpOp P ops Q i _ a w2
  unfold wpOp
  simp only [ho, hw, if_true]
  exact .inl (h w2 (H.ext hx) _ fun a w' h2 => ⟨.inl hc, h2⟩)
theorem treeC_one_skip (hS : ∀ w2, Ext w w2 → S w2) (ho : ops[i]? = some o) (hw : Region.wanted o (yielded ops a.tmps) = false) (h : ∀ w2, Ext w w2 → wpTreeC P ops Q t S (a.put o.dst undef) w2) : wpTreeC P ops Q (.e i t) S a w := by
  intro w2 hx
  show wpOp P ops Q i _ a w2
  unfold wpOp
  simp only [ho, hw, Bool.false_eq_true, if_false]
  exact ⟨.inr (hS w2 hx), h w2 hx⟩
theorem treeC_both (h1 : wpTreeC P ops Q s S a w) (h2 : wpTreeC P ops Q t S a w) : wpTreeC P ops Q (.both s t) S a w := ⟨h1, h2⟩
theorem treeC_nil (H : Own B w0 w l) (h : ∀ w', Own B w0 w' l → Q .normal a w') : wpTreeC P ops Q .nil S a w := fun w' hx => h w' (H.ext hx)
end
end Go.Proofs.Ytlhmjhildlnokaa
