/-
  A region that draws its order, in which calls that answer new memory and new blocks stand side by side: each adds one resource of its own; in whatever order they come, behind all of them the same is known. Nothing of the program stands here.
-/
import Derived.Test.YtmmieilogpmocaaM0d51f281
import Derived.Test.YtmmieilogpmocaaRat3
import Derived.Test.YtmmieilogpmocaaRef03g
import Derived.Test.YtmmieilogpmocaaRef03p
import Derived.Test.YtmmieilogpmocaaRef03d
import Derived.Test.YtmmieilogpmocaaLaw04a
import Derived.Test.YtmmieilogpmocaaFrac
import Derived.Test.YtmmieilogpmocaaRat5
namespace Go.Proofs.Ytmmieilogpmocaa
set_option linter.unusedVariables false
open Go.RowKit
variable {P : Program} {ops : Array Oper} {Q : Exit → Act → World → Prop} {B : Nat} {w0 : World} {lf : List Res}

/-- What an operation answers, and the resource that it adds. -/
abbrev Ans := Value → Res → Prop
/-- An operation that adds a resource, in every world in which the resources lf are there. -/
def Adds (P : Program) (ops : Array Oper) (B : Nat) (w0 : World) (lf : List Res) (o : Oper) (A : Ans) (a : Act) : Prop :=
  Region.wanted o (yielded ops a.tmps) = true ∧ ∀ w l, Own B w0 w l → Suf lf l → o.wp P a w (fun a' w' => ∃ v r, A v r ∧ a' = a.put o.dst v ∧ Own B w0 w' (r :: l)) noQ
theorem Adds.wpOp {i : Nat} {o : Oper} {A : Ans} {a : Act} (hi : ops[i]? = some o) (hy : Adds P ops B w0 lf o A a) {K : Act → World → Prop} {w : World} {l : List Res} (H : Own B w0 w l) (hs : Suf lf l)
    (h : ∀ v r w', A v r → Own B w0 w' (r :: l) → K (a.put o.dst v) w') : wpOp P ops Q i K a w := by
  unfold Go.wpOp
  simp only [hi, hy.1, if_true]
  exact .inl (Oper.wp_mono (fun a' w' ⟨v, r, h1, h2, h3⟩ => by rw [h2]; exact h v r w' h1 h3) (wp_noQ (hy.2 w l H hs)))
theorem Adds.put {o : Oper} {A : Ans} {a : Act} (hy : Adds P ops B w0 lf o A a) (hsel : ∀ cs b, o.op ≠ .select cs b) (dst : Option Tmp) (u : Value) (h : ∀ d, dst = some d → d ∉ o.looksAt ops) (hd : ∀ d, o.dst = some d → dst ≠ some d) : Adds P ops B w0 lf o A (a.put dst u) := by
  refine ⟨by rw [wanted_put o a dst u h]; exact hy.1, fun w l H hs => ?_⟩
  have h2 := hy.2 w l H hs
  unfold Oper.wp at *
  rw [execOp_put o hsel a dst u h]
  generalize (execOp a.eval o).run P w = r at *
  have key : ∀ z w', (∃ v r, A v r ∧ a.put o.dst z = a.put o.dst v ∧ Own B w0 w' (r :: l)) → ∃ v r, A v r ∧ (a.put dst u).put o.dst z = (a.put dst u).put o.dst v ∧ Own B w0 w' (r :: l) := fun z w' ⟨v, r, h1, h2, h3⟩ =>
    ⟨v, r, h1, by rw [← Act.put_comm a z u hd, ← Act.put_comm a v u hd, h2], h3⟩
  cases r with
  | ok n w' =>
    cases n <;> simp only [Oper.upon] at h2 ⊢
    case value z => exact key z w' h2
    case skip => exact key _ w' h2
    case defer d =>
      exfalso
      obtain ⟨v, r, _, h2, _⟩ := h2
      have := congrArg (fun x : Act => x.defers.length) h2
      cases hdst : o.dst <;> simp [hdst, Act.put] at this
    case enter f args =>
      refine Calls.mono h2 fun e w'' he => ?_
      cases e with
      | returned z => exact key z w'' he
      | panicked c => exact he
      | outgrown => exact he
    case row row args => exact Rows.mono h2 fun z w'' he => key z w'' he
    all_goals exact h2
  | halt x w' => cases x <;> simp only [Oper.upon] at h2 ⊢ <;> exact h2

/-- One of the operations that add. -/
structure Adder where
  i : Nat
  o : Oper
  A : Ans
def putAll : Act → List Adder → List (Value × Res) → Act
  | a, x :: R, p :: L => putAll (a.put x.o.dst p.1) R L
  | a, _, _ => a
def doneAll : Array Bool → List Nat → Array Bool
  | done, i :: R => doneAll (done.setIfInBounds i true) R
  | done, [] => done
def GoodL : List Adder → List (Value × Res) → Prop
  | [], [] => True
  | x :: R, p :: L => x.A p.1 p.2 ∧ GoodL R L
  | _, _ => False
theorem putAll_put : ∀ (R : List Adder) (L : List (Value × Res)) (a : Act) (d : Option Tmp) (v : Value), (∀ x ∈ R, ∀ t, d = some t → x.o.dst ≠ some t) → putAll (a.put d v) R L = (putAll a R L).put d v
  | [], [], _, _, _, _ => rfl
  | [], _ :: _, _, _, _, _ => rfl
  | _ :: _, [], _, _, _, _ => rfl
  | x :: R, p :: L, a, d, v, h => by
    unfold putAll
    rw [Act.put_comm a v p.1 (h x (by simp)), putAll_put R L _ d v fun y hy => h y (List.mem_cons_of_mem _ hy)]
theorem putAll_mid : ∀ (R1 : List Adder) (L1 : List (Value × Res)) (x : Adder) (p : Value × Res) (R2 : List Adder) (L2 : List (Value × Res)) (a : Act), R1.length = L1.length → (∀ y ∈ R1, ∀ t, x.o.dst = some t → y.o.dst ≠ some t) →
    putAll a (R1 ++ x :: R2) (L1 ++ p :: L2) = putAll (a.put x.o.dst p.1) (R1 ++ R2) (L1 ++ L2)
  | [], [], x, p, R2, L2, a, _, _ => rfl
  | [], _ :: _, _, _, _, _, _, h, _ => by simp at h
  | _ :: _, [], _, _, _, _, _, h, _ => by simp at h
  | y :: R1, q :: L1, x, p, R2, L2, a, h, hd => by
    simp only [List.cons_append]
    unfold putAll
    rw [putAll_mid R1 L1 x p R2 L2 _ (by simpa using h) fun z hz => hd z (List.mem_cons_of_mem _ hz), Act.put_comm a p.1 q.1 (hd y (by simp))]
theorem doneAll_comm : ∀ (R : List Nat) (done : Array Bool) (i : Nat), doneAll (done.setIfInBounds i true) R = (doneAll done R).setIfInBounds i true
  | [], _, _ => rfl
  | j :: R, done, i => by
    unfold doneAll
    by_cases h : i = j
    · subst h; rw [doneAll_comm R, doneAll_comm R]
    · rw [Array.setIfInBounds_comm _ _ h, doneAll_comm R, doneAll_comm R]
theorem doneAll_mid (R1 : List Nat) (i : Nat) (R2 : List Nat) : ∀ (done : Array Bool), doneAll done (R1 ++ i :: R2) = doneAll (done.setIfInBounds i true) (R1 ++ R2) := by
  induction R1 with
  | nil => intro done; rfl
  | cons j R1 ih =>
    intro done
    simp only [List.cons_append]
    unfold doneAll
    rw [ih]
    by_cases h : i = j
    · subst h; rfl
    · rw [Array.setIfInBounds_comm _ _ h]
theorem good_split : ∀ (R1 R2 : List Adder) (L : List (Value × Res)), GoodL (R1 ++ R2) L → ∃ L1 L2, L = L1 ++ L2 ∧ GoodL R1 L1 ∧ GoodL R2 L2 ∧ R1.length = L1.length
  | [], R2, L, h => ⟨[], L, rfl, trivial, h, rfl⟩
  | x :: R1, R2, [], h => h.elim
  | x :: R1, R2, p :: L, h => by
    obtain ⟨L1, L2, h1, h2, h3, h4⟩ := good_split R1 R2 L h.2
    exact ⟨p :: L1, L2, by rw [h1]; rfl, ⟨h.1, h2⟩, h3, by simp [h4]⟩
theorem good_join : ∀ (R1 R2 : List Adder) (L1 L2 : List (Value × Res)), GoodL R1 L1 → GoodL R2 L2 → GoodL (R1 ++ R2) (L1 ++ L2)
  | [], _, [], _, _, h => h
  | [], _, _ :: _, _, h, _ => h.elim
  | _ :: _, _, [], _, h, _ => h.elim
  | x :: R1, R2, p :: L1, L2, h, k => ⟨h.1, good_join R1 R2 L1 L2 h.2 k⟩
/-- In the order of the list each may come up, when those ahead of it have. -/
def topoB (ops : Array Oper) : Array Bool → List Nat → Bool
  | done, i :: R => (Region.ready .any ops done).contains i && topoB ops (done.setIfInBounds i true) R
  | _, [] => true
/-- Does j wait for i? -/
def directB (ops : Array Oper) (j i : Nat) : Bool :=
  match ops[j]? with
  | none => false
  | some o => o.after.any fun e => Region.binds .any e && e.on == i
/-- Does j wait for i, itself or through others that have not come up? -/
def reachB (ops : Array Oper) (done : Array Bool) : Nat → Nat → Nat → Bool
  | 0, _, _ => false
  | n + 1, j, i => directB ops j i || (List.range ops.size).any fun m => !done.getD m true && (directB ops j m && reachB ops done n m i)
/-- All others that have not come up wait for each of them. -/
def waitB (ops : Array Oper) (done : Array Bool) (R : List Nat) : Bool :=
  (List.range ops.size).all fun j => done.getD j true || R.contains j || R.all fun i => reachB ops done 5 j i
theorem direct_done {ops : Array Oper} {done : Array Bool} {j i : Nat} (hj : j ∈ Region.ready .any ops done) (h : directB ops j i = true) : done.getD i true = true := by
  obtain ⟨_, o, ho, hall⟩ := mem_ready.1 hj
  unfold directB at h
  rw [ho] at h
  obtain ⟨e, he, h⟩ := Array.any_eq_true'.1 h
  simp only [Bool.and_eq_true, beq_iff_eq] at h
  have h1 := hall e he h.1
  rw [h.2] at h1
  rcases Nat.lt_or_ge i done.size with h' | h'
  · simp [h'] at h1 ⊢; exact h1
  · simp [Array.getElem?_eq_none h'] at h1 ⊢
theorem reach_step {ops : Array Oper} {done : Array Bool} {n j i : Nat} (hj : j ∈ Region.ready .any ops done) (hi : done.getD i true = false) : reachB ops done n j i = false := by
  cases n with
  | zero => rfl
  | succ n =>
    cases h : reachB ops done (n + 1) j i with
    | false => rfl
    | true =>
      exfalso
      simp only [reachB, Bool.or_eq_true, List.any_eq_true, Bool.and_eq_true] at h
      rcases h with h | ⟨m, _, hm, h, _⟩
      · rw [direct_done hj h] at hi; cases hi
      · rw [direct_done hj h] at hm; simp at hm
theorem reach_less {ops : Array Oper} {done : Array Bool} {x i : Nat} (hx : x ∈ Region.ready .any ops done) (hi : done.getD i true = false) : ∀ (n j : Nat), reachB ops done n j i = true → reachB ops (done.setIfInBounds x true) n j i = true := by
  intro n
  induction n with
  | zero => intro j h; simp [reachB] at h
  | succ n ih =>
    intro j h
    simp only [reachB, Bool.or_eq_true, List.any_eq_true, Bool.and_eq_true] at h ⊢
    rcases h with h | ⟨m, hm, h0, h1, h2⟩
    · exact .inl h
    · by_cases hmx : x = m
      · subst hmx
        rw [reach_step hx hi] at h2
        cases h2
      · exact .inr ⟨m, hm, by rw [getD_set_ne true hmx]; exact h0, h1, ih m h2⟩
theorem topo_mono {ops : Array Oper} : ∀ (R : List Nat) (done : Array Bool) (k : Nat), topoB ops done R = true → k ∉ R → topoB ops (done.setIfInBounds k true) R = true
  | [], _, _, _, _ => rfl
  | i :: R, done, k, h, hk => by
    simp only [topoB, Bool.and_eq_true, List.contains_iff_mem] at h ⊢
    have hik : i ≠ k := fun e => hk (by rw [e]; simp)
    refine ⟨ready_mono h.1 hik, ?_⟩
    rw [Array.setIfInBounds_comm _ _ (Ne.symm hik)]
    exact topo_mono R _ k h.2 fun h => hk (List.mem_cons_of_mem _ h)
theorem topo_less {ops : Array Oper} : ∀ (R1 : List Nat) (i : Nat) (R2 : List Nat) (done : Array Bool), (R1 ++ i :: R2).Nodup → topoB ops done (R1 ++ i :: R2) = true → topoB ops (done.setIfInBounds i true) (R1 ++ R2) = true
  | [], i, R2, done, _, h => by
    simp only [List.nil_append, topoB, Bool.and_eq_true] at h
    exact h.2
  | j :: R1, i, R2, done, hn, h => by
    simp only [List.cons_append, topoB, Bool.and_eq_true, List.contains_iff_mem] at h ⊢
    simp only [List.cons_append, List.nodup_cons] at hn
    have hij : j ≠ i := fun e => hn.1 (by rw [e]; simp)
    refine ⟨ready_mono h.1 hij, ?_⟩
    rw [Array.setIfInBounds_comm _ _ (Ne.symm hij)]
    exact topo_less R1 i R2 _ hn.2 h.2
theorem topo_open {ops : Array Oper} : ∀ (R : List Nat) (done : Array Bool), R.Nodup → topoB ops done R = true → ∀ i ∈ R, done.getD i true = false
  | i :: R, done, hn, h, k, hk => by
    simp only [topoB, Bool.and_eq_true, List.contains_iff_mem] at h
    simp only [List.nodup_cons] at hn
    rcases List.mem_cons.1 hk with rfl | hk
    · exact (mem_ready.1 h.1).1
    · have := topo_open R _ hn.2 h.2 k hk
      rwa [getD_set_ne true (fun e => hn.1 (by rw [e]; exact hk))] at this
theorem ready_in {ops : Array Oper} {done : Array Bool} {R : List Nat} (hn : R.Nodup) (hne : R ≠ []) (ht : topoB ops done R = true) (hw : waitB ops done R = true) {j : Nat} (hj : j ∈ Region.ready .any ops done) : j ∈ R := by
  obtain ⟨h0, o, ho, hall⟩ := mem_ready.1 hj
  have hlt : j < ops.size := (Array.getElem?_eq_some_iff.1 ho).1
  have h := List.all_eq_true.1 hw j (List.mem_range.2 hlt)
  simp only [h0, Bool.false_or, Bool.or_eq_true, List.contains_iff_mem] at h
  rcases h with h | h
  · exact h
  · obtain ⟨i, R', rfl⟩ : ∃ i R', R = i :: R' := by cases R with | nil => exact absurd rfl hne | cons i R' => exact ⟨i, R', rfl⟩
    have := List.all_eq_true.1 h i (by simp)
    rw [reach_step hj (topo_open _ done hn ht i (by simp))] at this
    cases this
theorem wait_less {ops : Array Oper} {done : Array Bool} {R1 : List Nat} {i : Nat} {R2 : List Nat} (hi : i ∈ Region.ready .any ops done) (hop : ∀ k ∈ R1 ++ i :: R2, done.getD k true = false) (h : waitB ops done (R1 ++ i :: R2) = true) : waitB ops (done.setIfInBounds i true) (R1 ++ R2) = true := by
  unfold waitB at *
  rw [List.all_eq_true] at *
  intro j hj
  have h1 := h j hj
  have hlt := List.mem_range.1 hj
  have hsub : ∀ k ∈ R1 ++ i :: R2, k ≠ i → k ∈ R1 ++ R2 := fun k hk hki => by
    rcases List.mem_append.1 hk with h2 | h2
    · exact List.mem_append.2 (.inl h2)
    · rcases List.mem_cons.1 h2 with h3 | h3
      · exact absurd h3 hki
      · exact List.mem_append.2 (.inr h3)
  have hup : ∀ k ∈ R1 ++ R2, k ∈ R1 ++ i :: R2 := fun k hk => by
    rcases List.mem_append.1 hk with h2 | h2
    · exact List.mem_append.2 (.inl h2)
    · exact List.mem_append.2 (.inr (List.mem_cons_of_mem _ h2))
  simp only [Bool.or_eq_true, List.contains_iff_mem] at h1 ⊢
  by_cases hji : j = i
  · subst hji
    left; left
    by_cases hs : j < done.size
    · simp [hs]
    · simp [hs]
  · rw [getD_set_ne true (fun e => hji e.symm)]
    rcases h1 with (h1 | h1) | h1
    · exact .inl (.inl h1)
    · exact .inl (.inr (hsub j h1 hji))
    · right
      rw [List.all_eq_true] at h1 ⊢
      intro k hk
      exact reach_less hi (hop k (hup k hk)) 5 j (h1 k (hup k hk))
def Adder.idx (x : Adder) : Nat := x.i
/-- Two of them do not look at each other's answers. -/
def apart2 (ops : Array Oper) (x y : Adder) : Prop := x.o.apart ops y.o = true ∧ y.o.apart ops x.o = true
theorem any_adders (hsel : ∀ (j : Nat) (x : Oper) cs b, ops[j]? = some x → x.op ≠ .select cs b) (f : Nat) : ∀ (n : Nat) (R : List Adder) (done : Array Bool) (a : Act) (w : World) (l : List Res), R.length = n →
    (∀ x ∈ R, ops[x.i]? = some x.o ∧ Adds P ops B w0 lf x.o x.A a) → R.Pairwise (apart2 ops) → (R.map Adder.idx).Nodup → topoB ops done (R.map Adder.idx) = true → waitB ops done (R.map Adder.idx) = true → Own B w0 w l → Suf lf l →
    (∀ L, GoodL R L → ∀ w', Own B w0 w' (L.map (·.2) ++ l) → wpAnyC P ops Q (Keeps B w0 lf) f (doneAll done (R.map Adder.idx)) (putAll a R L) w') →
    wpAnyC P ops Q (Keeps B w0 lf) (n + f) done a w := by
  intro n
  induction n with
  | zero =>
    intro R done a w l hR _ _ _ _ _ H _ hK
    have : R = [] := List.eq_nil_of_length_eq_zero hR
    subst this
    have := hK [] trivial w (by simpa using H)
    rw [Nat.zero_add]
    exact this
  | succ n ih =>
    intro R done a w l hR hA hap hn ht hw H hs hK
    have hne : R ≠ [] := fun h => by rw [h] at hR; simp at hR
    have hne' : R.map Adder.idx ≠ [] := fun h => hne (List.map_eq_nil_iff.1 h)
    rw [Nat.succ_add]
    refine ⟨fun h => ?_, fun j hj w2 hx => ?_⟩
    · obtain ⟨x, R', rfl⟩ : ∃ x R', R = x :: R' := by cases R with | nil => exact absurd rfl hne | cons x R' => exact ⟨x, R', rfl⟩
      simp only [List.map_cons, topoB, Bool.and_eq_true, List.contains_iff_mem] at ht
      rw [h] at ht
      cases ht.1
    · have hjR := ready_in hn hne' ht hw hj
      obtain ⟨x, hx1, rfl⟩ := List.mem_map.1 hjR
      obtain ⟨R1, R2, rfl⟩ := List.append_of_mem hx1
      obtain ⟨ho, hy⟩ := hA x (by simp)
      refine hy.wpOp ho (H.ext hx) hs fun v r w' hv H' => ⟨.inr ⟨_, H', .there hs⟩, ?_⟩
      rw [List.map_append, List.map_cons] at hn ht hw
      obtain ⟨p1, p2, p3⟩ := List.pairwise_append.1 hap
      obtain ⟨p4, p5⟩ := List.pairwise_cons.1 p2
      have hother : ∀ y ∈ R1 ++ R2, apart2 ops x y := fun y hy => by
        rcases List.mem_append.1 hy with h | h
        · have := p3 y h x (by simp); exact ⟨this.2, this.1⟩
        · exact p4 y h
      have hdst : ∀ y ∈ R1 ++ R2, ∀ t, x.o.dst = some t → y.o.dst ≠ some t := fun y hy => (Oper.apart_spec (hother y hy).1).2.1
      refine ih (R1 ++ R2) _ _ w' (r :: l) (by simp at hR ⊢; omega) (fun y hy => ?_) (List.pairwise_append.2 ⟨p1, p5, fun u hu v hv => p3 u hu v (List.mem_cons_of_mem _ hv)⟩) ?_ ?_ ?_ H' (.there hs) (fun L hL w3 H3 => ?_)
      · obtain ⟨q1, q2⟩ := hA y (by
          rcases List.mem_append.1 hy with h | h
          · exact List.mem_append.2 (.inl h)
          · exact List.mem_append.2 (.inr (List.mem_cons_of_mem _ h)))
        have s1 := Oper.apart_spec (hother y hy).1
        exact ⟨q1, q2.put (fun cs b => hsel y.i y.o cs b q1) _ _ s1.1 fun d hd e => s1.2.1 d e hd⟩
      · rw [List.map_append]
        exact (List.nodup_append.1 hn).1 |> fun h1 => List.nodup_append.2 ⟨h1, (List.nodup_cons.1 (List.nodup_append.1 hn).2.1).2, fun u hu v hv => (List.nodup_append.1 hn).2.2 u hu v (List.mem_cons_of_mem _ hv)⟩
      · rw [List.map_append]; exact topo_less _ _ _ _ hn ht
      · rw [List.map_append]; exact wait_less hj (fun k hk => topo_open _ done hn ht k hk) hw
      · obtain ⟨L1, L2, rfl, g1, g2, hlen⟩ := good_split R1 R2 L hL
        have hk := hK (L1 ++ (v, r) :: L2) (good_join R1 (x :: R2) L1 ((v, r) :: L2) g1 ⟨hv, g2⟩) w3 (by
          refine H3.perm ?_
          simp only [List.map_append, List.map_cons, List.append_assoc, List.cons_append]
          exact List.Perm.append_left _ (List.perm_middle (l₁ := L2.map (·.2)) (a := r) (l₂ := l)).symm)
        rw [List.map_append, List.map_cons, doneAll_mid, putAll_mid R1 L1 x (v, r) R2 L2 a hlen (fun y hy => hdst y (List.mem_append.2 (.inl hy)))] at hk
        rw [List.map_append]
        exact hk
/-! ### The tree -/
inductive TrA where
  | nil
  | q (i : Nat) (t : TrA)
  | e (i : Nat) (t : TrA)
  | both (s t : TrA)
  | add (R : List Nat) (t : TrA)
/-- The tree of an order, as in RegC; 'add': those of the list come up side by side, each adds a resource. -/
def wpTreeA (P : Program) (ops : Array Oper) (Q : Exit → Act → World → Prop) (B : Nat) (w0 : World) (lf : List Res) : TrA → Act → World → Prop
  | .nil, a, w => ∀ w', Ext w w' → Q .normal a w'
  | .q i t, a, w => ∃ o v, ops[i]? = some o ∧ First P ops (Keeps B w0 lf) o v a ∧ Keeps B w0 lf w ∧ wpTreeA P ops Q B w0 lf t (a.put o.dst v) w
  | .e i t, a, w => ∀ w2, Ext w w2 → wpOp P ops Q i (fun a' w' => (closer ops i = true ∨ Keeps B w0 lf w') ∧ wpTreeA P ops Q B w0 lf t a' w') a w2
  | .both s t, a, w => wpTreeA P ops Q B w0 lf s a w ∧ wpTreeA P ops Q B w0 lf t a w
  | .add R t, a, w => ∃ (l : List Res) (L : List Adder), Own B w0 w l ∧ Suf lf l ∧ L.map Adder.idx = R ∧ (∀ x ∈ L, ops[x.i]? = some x.o ∧ Adds P ops B w0 lf x.o x.A a) ∧ L.Pairwise (apart2 ops) ∧
      ∀ vr, GoodL L vr → ∀ w', Own B w0 w' (vr.map (·.2) ++ l) → wpTreeA P ops Q B w0 lf t (putAll a L vr) w'
def TrA.heads : TrA → List Nat
  | .e i _ => [i]
  | .both s t => s.heads ++ t.heads
  | _ => []
mutual
def treeBA (ops : Array Oper) : TrA → Nat → Array Bool → Bool
  | .nil, f, done => f == 0 && Region.ready .any ops done == []
  | .q i t, f, done => match f with
    | 0 => false
    | f + 1 => (Region.ready .any ops done).contains i && Region.free .any ops done i && treeBA ops t f (done.setIfInBounds i true)
  | .e i t, f, done => match f with
    | 0 => false
    | f + 1 => Region.ready .any ops done == [i] && treeBA ops t f (done.setIfInBounds i true)
  | .both s t, f, done => match f with
    | 0 => false
    | f + 1 => Region.ready .any ops done == s.heads ++ t.heads && !(s.heads ++ t.heads).isEmpty && (brBA ops s f done && brBA ops t f done)
  | .add R t, f, done => decide (R.length ≤ f) && decide R.Nodup && topoB ops done R && waitB ops done R && treeBA ops t (f - R.length) (doneAll done R)
def brBA (ops : Array Oper) : TrA → Nat → Array Bool → Bool
  | .e i t, f, done => treeBA ops t f (done.setIfInBounds i true)
  | .both s t, f, done => brBA ops s f done && brBA ops t f done
  | _, _, _ => false
end
def TrA.sz : TrA → Nat
  | .nil => 1
  | .q _ t => t.sz + 1
  | .e _ t => t.sz + 1
  | .both s t => s.sz + t.sz + 1
  | .add _ t => t.sz + 1
theorem branchA {f : Nat} {done : Array Bool} {a : Act} {w : World} {i : Nat} : ∀ {t : TrA}, i ∈ t.heads → brBA ops t f done = true → wpTreeA P ops Q B w0 lf t a w →
    ∃ t', treeBA ops t' f (done.setIfInBounds i true) = true ∧ t'.sz < t.sz ∧ ∀ w2, Ext w w2 → wpOp P ops Q i (fun a' w' => (closer ops i = true ∨ Keeps B w0 lf w') ∧ wpTreeA P ops Q B w0 lf t' a' w') a w2
  | .nil, h, _, _ => by cases h
  | .q _ _, h, _, _ => by cases h
  | .add _ _, h, _, _ => by cases h
  | .e j t, h, hB, hw => by
    obtain rfl : i = j := by simpa [TrA.heads] using h
    rw [brBA] at hB
    exact ⟨t, hB, by simp [TrA.sz], hw⟩
  | .both s t, h, hB, hw => by
    rw [brBA, Bool.and_eq_true] at hB
    rcases List.mem_append.1 h with h | h
    · obtain ⟨t', h1, h2, h3⟩ := branchA h hB.1 hw.1
      exact ⟨t', h1, by simp only [TrA.sz]; omega, h3⟩
    · obtain ⟨t', h1, h2, h3⟩ := branchA h hB.2 hw.2
      exact ⟨t', h1, by simp only [TrA.sz]; omega, h3⟩
theorem anyA_tree (hsel : Region.noSelect ops = true) (hQ : ∀ c a d v w, Q (.panic c) (Act.put a d v) w → Q (.panic c) a w) :
    ∀ (k : Nat) (t : TrA) (f : Nat) (done : Array Bool) (a : Act) (w : World), t.sz ≤ k → treeBA ops t f done = true → wpTreeA P ops Q B w0 lf t a w → wpAnyC P ops Q (Keeps B w0 lf) f done a w := by
  intro k
  induction k with
  | zero => intro t f done a w hk; cases t <;> simp [TrA.sz] at hk
  | succ k ih =>
    intro t f done a w hk hB h
    cases t with
    | nil =>
      rw [treeBA, Bool.and_eq_true, beq_iff_eq] at hB
      obtain ⟨rfl, hr⟩ := hB
      exact ⟨by simpa using hr, h⟩
    | q i t =>
      cases f with
      | zero => simp [treeBA] at hB
      | succ f =>
        simp only [treeBA, Bool.and_eq_true] at hB
        obtain ⟨⟨hr, hf⟩, hB'⟩ := hB
        obtain ⟨o, v, ho, hy, hS, hK⟩ := h
        exact wpAnyC_first keeps_grows ho (Region.noSelect_spec hsel) (fun c a w h => hQ c a o.dst v w h) f done a w (Region.free_spec ho hf) (by simpa using hr) hy hS (ih _ _ _ _ _ (by simp only [TrA.sz] at hk; omega) hB' hK)
    | e i t =>
      cases f with
      | zero => simp [treeBA] at hB
      | succ f =>
        simp only [treeBA, Bool.and_eq_true, beq_iff_eq] at hB
        refine ⟨fun hr => (by rw [hB.1] at hr; cases hr), fun j hj w2 hx => ?_⟩
        rw [hB.1] at hj
        obtain rfl := List.mem_singleton.1 hj
        exact wpOp_mono (fun a' w' ⟨h1, h3⟩ => ⟨h1, ih _ _ _ _ _ (by simp only [TrA.sz] at hk; omega) hB.2 h3⟩) (h w2 hx)
    | both s t =>
      cases f with
      | zero => simp [treeBA] at hB
      | succ f =>
        simp only [treeBA, Bool.and_eq_true, beq_iff_eq, Bool.not_eq_true'] at hB
        obtain ⟨⟨hr, hne⟩, hs, ht⟩ := hB
        refine ⟨fun h0 => (by rw [hr] at h0; rw [h0] at hne; simp at hne), fun j hj w2 hx => ?_⟩
        rw [hr] at hj
        rcases List.mem_append.1 hj with hj | hj
        · obtain ⟨t', h1, h2, h3⟩ := branchA hj hs h.1
          exact wpOp_mono (fun a' w' ⟨g1, g3⟩ => ⟨g1, ih t' _ _ _ _ (by simp only [TrA.sz] at hk; omega) h1 g3⟩) (h3 w2 hx)
        · obtain ⟨t', h1, h2, h3⟩ := branchA hj ht h.2
          exact wpOp_mono (fun a' w' ⟨g1, g3⟩ => ⟨g1, ih t' _ _ _ _ (by simp only [TrA.sz] at hk; omega) h1 g3⟩) (h3 w2 hx)
    | add R t =>
      simp only [treeBA, Bool.and_eq_true, decide_eq_true_eq] at hB
      obtain ⟨⟨⟨⟨hlen, hn⟩, ht⟩, hw⟩, hB'⟩ := hB
      obtain ⟨l, L, H, hs, hL, hA, hap, hK⟩ := h
      have hl : L.length = R.length := by rw [← hL, List.length_map]
      subst hL
      have e : f = (L.map Adder.idx).length + (f - (L.map Adder.idx).length) := by omega
      rw [e]
      exact any_adders (Region.noSelect_spec hsel) (f - (L.map Adder.idx).length) (L.map Adder.idx).length L done a w l hl hA hap hn ht hw H hs fun vr hg w' H' => ih _ _ _ _ _ (by simp only [TrA.sz] at hk; omega) hB' (hK vr hg w' H')
/-! the same check by a number that falls: the kernel reckons it -/
def brA (B : TrA → Array Bool → Bool) (done : Array Bool) : TrA → Bool
  | .e i t => B t (done.setIfInBounds i true)
  | .both s t => brA B done s && brA B done t
  | _ => false
def treeBF (ops : Array Oper) : Nat → TrA → Nat → Array Bool → Bool
  | 0, _, _, _ => false
  | _ + 1, .nil, f, done => f == 0 && Region.ready .any ops done == []
  | k + 1, .q i t, f, done => match f with
    | 0 => false
    | f + 1 => (Region.ready .any ops done).contains i && Region.free .any ops done i && treeBF ops k t f (done.setIfInBounds i true)
  | k + 1, .e i t, f, done => match f with
    | 0 => false
    | f + 1 => Region.ready .any ops done == [i] && treeBF ops k t f (done.setIfInBounds i true)
  | k + 1, .both s t, f, done => match f with
    | 0 => false
    | f + 1 => Region.ready .any ops done == s.heads ++ t.heads && !(s.heads ++ t.heads).isEmpty && brA (fun u d => treeBF ops k u f d) done (.both s t)
  | k + 1, .add R t, f, done => decide (R.length ≤ f) && decide R.Nodup && topoB ops done R && waitB ops done R && treeBF ops k t (f - R.length) (doneAll done R)
theorem brBA_of {f : Nat} {B : TrA → Array Bool → Bool} {done : Array Bool} (hB : ∀ u d, B u d = true → treeBA ops u f d = true) : ∀ (t : TrA), brA B done t = true → brBA ops t f done = true
  | .nil, h => by simp [brA] at h
  | .q _ _, h => by simp [brA] at h
  | .add _ _, h => by simp [brA] at h
  | .e i t, h => by rw [brBA]; exact hB _ _ h
  | .both s t, h => by
    simp only [brA, Bool.and_eq_true] at h
    rw [brBA, Bool.and_eq_true]
    exact ⟨brBA_of hB s h.1, brBA_of hB t h.2⟩
theorem treeBA_of : ∀ (k : Nat) (t : TrA) (f : Nat) (done : Array Bool), treeBF ops k t f done = true → treeBA ops t f done = true := by
  intro k
  induction k with
  | zero => intro t f done h; simp [treeBF] at h
  | succ k ih =>
    intro t f done h
    cases t with
    | nil => rw [treeBA]; exact h
    | q i t =>
      cases f with
      | zero => simp [treeBF] at h
      | succ f =>
        simp only [treeBF, Bool.and_eq_true] at h
        simp only [treeBA, Bool.and_eq_true]
        exact ⟨h.1, ih _ _ _ h.2⟩
    | e i t =>
      cases f with
      | zero => simp [treeBF] at h
      | succ f =>
        simp only [treeBF, Bool.and_eq_true] at h
        simp only [treeBA, Bool.and_eq_true]
        exact ⟨h.1, ih _ _ _ h.2⟩
    | both s t =>
      cases f with
      | zero => simp [treeBF] at h
      | succ f =>
        simp only [treeBF, Bool.and_eq_true] at h
        have h2 := brBA_of (ops := ops) (f := f) (done := done) (fun u d hu => ih u f d hu) (.both s t) h.2
        rw [brBA, Bool.and_eq_true] at h2
        simp only [treeBA, Bool.and_eq_true]
        exact ⟨h.1, h2⟩
    | add R t =>
      simp only [treeBF, Bool.and_eq_true] at h
      simp only [treeBA, Bool.and_eq_true]
      exact ⟨h.1, ih _ _ _ h.2⟩
/-- May the region be walked so? -/
def treeOkA (ops : Array Oper) (t : TrA) : Bool := Region.noSelect ops && treeBF ops (ops.size + 2) t ops.size (Array.replicate ops.size false)
/-- A REGION THAT DRAWS ITS ORDER, by the tree; the first k resources may be written. -/
theorem region_treeA {id : Nat} {a : Act} {w w0 : World} {B : Nat} {rs : List Res} {l : List Oper} {G : Prop} (tag k : Nat) (t : TrA) (hm : P.follows .mixedOrders = true) (hQ : ∀ c a d v w, Q (.panic c) (Act.put a d v) w → Q (.panic c) a w) (hB : treeOkA l.toArray t = true)
    (H : Own B w0 w rs) (hG : Key tag G) (h : Key tag G → ∀ w', Own B w0 w' rs → wpTreeA P l.toArray Q B w0 (rs.drop k) t a w') : (Code.region id l.toArray true).wp P Q a w := by
  simp only [treeOkA, Bool.and_eq_true] at hB
  exact wp_region_any hm (wpAny_of_C _ _ _ _ (anyA_tree hB.1 hQ t.sz t _ _ a w.drew (Nat.le_refl _) (treeBA_of _ _ _ _ hB.2) (h hG _ H.drew)))
theorem region_treeA0 {id : Nat} {a : Act} {w w0 : World} {B : Nat} {rs : List Res} {l : List Oper} {G : Prop} (tag : Nat) (t : TrA) (hm : P.follows .mixedOrders = true) (hQ : ∀ c a d v w, Q (.panic c) (Act.put a d v) w → Q (.panic c) a w) (hB : treeOkA l.toArray t = true)
    (H : Own B w0 w rs) (hG : Key tag G) (h : Key tag G → ∀ w', Own B w0 w' rs → wpTreeA P l.toArray Q B w0 rs t a w') : (Code.region id l.toArray true).wp P Q a w := region_treeA tag 0 t hm hQ hB H hG h
/-! ### The steps -/
section
variable {t s : TrA} {i : Nat} {a : Act} {w : World} {o : Oper} {l : List Res}
theorem treeA_quiet (hS : Keeps B w0 lf w) (ho : ops[i]? = some o) (hb : quietB o.op = true) (hw : Region.wanted o (yielded ops a.tmps) = true)
    (h : ∀ K : Act → Prop, (∀ a, wpTreeA P ops Q B w0 lf t a w → K a) → o.quiet P a (Keeps B w0 lf) K) : wpTreeA P ops Q B w0 lf (.q i t) a w := by
  obtain ⟨v, h1, h2⟩ := h (fun a => wpTreeA P ops Q B w0 lf t a w) (fun _ h => h)
  refine ⟨o, v, ho, .inl (.inl ⟨hw, fun w' hw' => ?_⟩), hS, h2⟩
  have h3 := h1 w' hw'
  unfold Oper.quietAt at h3
  cases hr : (execOp a.eval o).run P w' with
  | ok n w'' =>
    obtain ⟨u, rfl⟩ := quietB_value hb hr
    rw [hr] at h3
    obtain ⟨rfl, rfl⟩ := h3
    rfl
  | halt x w'' => rw [hr] at h3; exact h3.elim
theorem treeA_skip (hS : Keeps B w0 lf w) (ho : ops[i]? = some o) (hw : Region.wanted o (yielded ops a.tmps) = false) (h : wpTreeA P ops Q B w0 lf t (a.put o.dst undef) w) : wpTreeA P ops Q B w0 lf (.q i t) a w := ⟨o, undef, ho, .inl (.inr ⟨hw, rfl⟩), hS, h⟩
theorem treeA_call {v : Value} (hS : Keeps B w0 lf w) (ho : ops[i]? = some o) (hw : Region.wanted o (yielded ops a.tmps) = true)
    (h : ∀ w', Own B w0 w' lf → ∀ K : Act → World → Prop, (∀ w2, Ext w' w2 → K (a.put o.dst v) w2) → o.wp P a w' K noQ) (hk : wpTreeA P ops Q B w0 lf t (a.put o.dst v) w) : wpTreeA P ops Q B w0 lf (.q i t) a w :=
  ⟨o, v, ho, .inr ⟨hw, fun w' ⟨l, H, hs⟩ => h w' (H.sub hs.sub) _ fun w2 h2 => ⟨rfl, h2⟩⟩, hS, hk⟩
theorem treeA_one (H : Own B w0 w l) (ho : ops[i]? = some o) (hw : Region.wanted o (yielded ops a.tmps) = true) (h : ∀ w2, Own B w0 w2 l → ∀ K : Act → World → Prop, (∀ a w', Keeps B w0 lf w' → wpTreeA P ops Q B w0 lf t a w' → K a w') → o.wp P a w2 K Q) :
    wpTreeA P ops Q B w0 lf (.e i t) a w := by
  intro w2 hx
  show wpOp P ops Q i _ a w2
  unfold wpOp
  simp only [ho, hw, if_true]
  exact .inl (h w2 (H.ext hx) _ fun a w' h1 h2 => ⟨.inr h1, h2⟩)
theorem treeA_last (hc : closer ops i = true) (H : Own B w0 w l) (ho : ops[i]? = some o) (hw : Region.wanted o (yielded ops a.tmps) = true) (h : ∀ w2, Own B w0 w2 l → ∀ K : Act → World → Prop, (∀ a w', wpTreeA P ops Q B w0 lf t a w' → K a w') → o.wp P a w2 K Q) :
    wpTreeA P ops Q B w0 lf (.e i t) a w := by
  intro w2 hx
  show wpOp P ops Q i _ a w2
  unfold wpOp
  simp only [ho, hw, if_true]
  exact .inl (h w2 (H.ext hx) _ fun a w' h2 => ⟨.inl hc, h2⟩)
theorem treeA_one_skip (hS : ∀ w2, Ext w w2 → Keeps B w0 lf w2) (ho : ops[i]? = some o) (hw : Region.wanted o (yielded ops a.tmps) = false) (h : ∀ w2, Ext w w2 → wpTreeA P ops Q B w0 lf t (a.put o.dst undef) w2) : wpTreeA P ops Q B w0 lf (.e i t) a w := by
  intro w2 hx
  show wpOp P ops Q i _ a w2
  unfold wpOp
  simp only [ho, hw, Bool.false_eq_true, if_false]
  exact ⟨.inr (hS w2 hx), h w2 hx⟩
theorem treeA_both (h1 : wpTreeA P ops Q B w0 lf s a w) (h2 : wpTreeA P ops Q B w0 lf t a w) : wpTreeA P ops Q B w0 lf (.both s t) a w := ⟨h1, h2⟩
theorem treeA_nil (H : Own B w0 w l) (h : ∀ w', Own B w0 w' l → Q .normal a w') : wpTreeA P ops Q B w0 lf .nil a w := fun w' hx => h w' (H.ext hx)
/-- Side by side: what each answers (in the order of the list L), then the rest. -/
theorem treeA_add {R : List Nat} (L : List Adder) (H : Own B w0 w l) (hs : Suf lf l) (hL : L.map Adder.idx = R) (hA : ∀ x ∈ L, ops[x.i]? = some x.o ∧ Adds P ops B w0 lf x.o x.A a) (hap : L.Pairwise (apart2 ops))
    (h : ∀ vr, GoodL L vr → ∀ w', Own B w0 w' (vr.map (·.2) ++ l) → wpTreeA P ops Q B w0 lf t (putAll a L vr) w') : wpTreeA P ops Q B w0 lf (.add R t) a w := ⟨l, L, H, hs, hL, hA, hap, h⟩
/-- An operation that adds, by its walk. -/
theorem adds_of {A : Ans} (hw : Region.wanted o (yielded ops a.tmps) = true) (h : ∀ w' l, Own B w0 w' l → Suf lf l → ∀ K : Act → World → Prop, (∀ v r w2, A v r → Own B w0 w2 (r :: l) → K (a.put o.dst v) w2) → o.wp P a w' K noQ) : Adds P ops B w0 lf o A a :=
  ⟨hw, fun w' l H hs => h w' l H hs _ fun v r w2 h1 h2 => ⟨v, r, h1, rfl, h2⟩⟩
end
/-! ### Side by side, by the numbers of the operations -/
/-- For all answers, one behind the other. -/
def AllA : List Ans → (List (Value × Res) → Prop) → Prop
  | [], K => K []
  | A :: As, K => ∀ v r, A v r → AllA As fun L => K ((v, r) :: L)
def putR (ops : Array Oper) : Act → List Nat → List (Value × Res) → Act
  | a, i :: R, p :: L => putR ops (a.put (ops[i]?.bind Oper.dst) p.1) R L
  | a, _, _ => a
def AllOps (P : Program) (ops : Array Oper) (B : Nat) (w0 : World) (lf : List Res) (a : Act) : List Nat → List Ans → Prop
  | i :: R, A :: As => (∃ o, ops[i]? = some o ∧ Adds P ops B w0 lf o A a) ∧ AllOps P ops B w0 lf a R As
  | [], [] => True
  | _, _ => False
def apartO (ops : Array Oper) (i j : Nat) : Bool :=
  match ops[i]?, ops[j]? with
  | some x, some y => x.apart ops y && y.apart ops x
  | _, _ => false
def apartR (ops : Array Oper) : List Nat → Bool
  | i :: R => R.all (apartO ops i) && apartR ops R
  | [] => true
theorem adders_of {a : Act} : ∀ (R : List Nat) (As : List Ans), AllOps P ops B w0 lf a R As → apartR ops R = true → ∃ L : List Adder, L.map Adder.idx = R ∧ L.map Adder.A = As ∧ (∀ x ∈ L, ops[x.i]? = some x.o ∧ Adds P ops B w0 lf x.o x.A a) ∧ L.Pairwise (apart2 ops)
  | [], [], _, _ => ⟨[], rfl, rfl, by simp, .nil⟩
  | [], _ :: _, h, _ => h.elim
  | _ :: _, [], h, _ => h.elim
  | i :: R, A :: As, ⟨⟨o, ho, hA⟩, h⟩, hap => by
    simp only [apartR, Bool.and_eq_true] at hap
    obtain ⟨L, h1, h2, h3, h4⟩ := adders_of R As h hap.2
    refine ⟨⟨i, o, A⟩ :: L, by simp [h1, Adder.idx], by simp [h2], List.forall_mem_cons.2 ⟨⟨ho, hA⟩, h3⟩, .cons (fun y hy => ?_) h4⟩
    have hyR : y.i ∈ R := by rw [← h1]; exact List.mem_map.2 ⟨y, hy, rfl⟩
    have := List.all_eq_true.1 hap.1 _ hyR
    unfold apartO at this
    rw [ho, (h3 y hy).1] at this
    simp only [Bool.and_eq_true] at this
    exact ⟨this.1, this.2⟩
theorem allA_good : ∀ (L : List Adder) (K : List (Value × Res) → Prop), AllA (L.map Adder.A) K → ∀ vr, GoodL L vr → K vr
  | [], _, h, [], _ => h
  | [], _, _, _ :: _, g => g.elim
  | _ :: _, _, _, [], g => g.elim
  | x :: L, K, h, p :: vr, g => allA_good L (fun l => K (p :: l)) (h p.1 p.2 g.1) vr g.2
theorem putAll_R : ∀ (L : List Adder) (vr : List (Value × Res)) (a : Act), (∀ x ∈ L, ops[x.i]? = some x.o) → putAll a L vr = putR ops a (L.map Adder.idx) vr
  | [], [], _, _ => rfl
  | [], _ :: _, _, _ => rfl
  | _ :: _, [], _, _ => rfl
  | x :: L, p :: vr, a, h => by
    simp only [List.map_cons, putAll, putR]
    rw [show Adder.idx x = x.i from rfl, h x (by simp)]
    exact putAll_R L vr _ fun y hy => h y (List.mem_cons_of_mem _ hy)
theorem treeA_adds {t : TrA} {a : Act} {w : World} {l : List Res} {R : List Nat} (As : List Ans) (H : Own B w0 w l) (hs : Suf lf l) (hap : apartR ops R = true) (hA : AllOps P ops B w0 lf a R As)
    (h : AllA As fun vr => ∀ w', Own B w0 w' (vr.map (·.2) ++ l) → wpTreeA P ops Q B w0 lf t (putR ops a R vr) w') : wpTreeA P ops Q B w0 lf (.add R t) a w := by
  obtain ⟨L, h1, h2, h3, h4⟩ := adders_of R As hA hap
  refine treeA_add L H hs h1 h3 h4 fun vr hg w' H' => ?_
  rw [putAll_R L vr a fun x hx => (h3 x hx).1, h1]
  rw [← h2] at h
  exact allA_good L _ h vr hg w' H'
/-- A walk that is held at its return. -/
structure Stopped (p : Prop) : Prop where
  out : p
/-- What a new block answers. -/
def NewA (row : List Value) : Ans := fun v r => ∃ b, v = .pointer (some ⟨b, 0, none⟩) ∧ r = .cells b row
theorem r18 {r r' x0 x1 x2 x3 x4 x5 x6 x7 x8 x9 x10 x11 x12 x13 x14 x15 x16 x17 : Res} {l : List Res} : Rep r r' (x0 :: x1 :: x2 :: x3 :: x4 :: x5 :: x6 :: x7 :: x8 :: x9 :: x10 :: x11 :: x12 :: x13 :: x14 :: x15 :: x16 :: x17 :: r :: l) (x0 :: x1 :: x2 :: x3 :: x4 :: x5 :: x6 :: x7 :: x8 :: x9 :: x10 :: x11 :: x12 :: x13 :: x14 :: x15 :: x16 :: x17 :: r' :: l) := .there (.there (.there (.there (.there (.there (.there (.there (.there (.there (.there (.there (.there (.there (.there (.there (.there (.there (.here))))))))))))))))))
theorem r19 {r r' x0 x1 x2 x3 x4 x5 x6 x7 x8 x9 x10 x11 x12 x13 x14 x15 x16 x17 x18 : Res} {l : List Res} : Rep r r' (x0 :: x1 :: x2 :: x3 :: x4 :: x5 :: x6 :: x7 :: x8 :: x9 :: x10 :: x11 :: x12 :: x13 :: x14 :: x15 :: x16 :: x17 :: x18 :: r :: l) (x0 :: x1 :: x2 :: x3 :: x4 :: x5 :: x6 :: x7 :: x8 :: x9 :: x10 :: x11 :: x12 :: x13 :: x14 :: x15 :: x16 :: x17 :: x18 :: r' :: l) := .there (.there (.there (.there (.there (.there (.there (.there (.there (.there (.there (.there (.there (.there (.there (.there (.there (.there (.there (.here)))))))))))))))))))
theorem r20 {r r' x0 x1 x2 x3 x4 x5 x6 x7 x8 x9 x10 x11 x12 x13 x14 x15 x16 x17 x18 x19 : Res} {l : List Res} : Rep r r' (x0 :: x1 :: x2 :: x3 :: x4 :: x5 :: x6 :: x7 :: x8 :: x9 :: x10 :: x11 :: x12 :: x13 :: x14 :: x15 :: x16 :: x17 :: x18 :: x19 :: r :: l) (x0 :: x1 :: x2 :: x3 :: x4 :: x5 :: x6 :: x7 :: x8 :: x9 :: x10 :: x11 :: x12 :: x13 :: x14 :: x15 :: x16 :: x17 :: x18 :: x19 :: r' :: l) := .there (.there (.there (.there (.there (.there (.there (.there (.there (.there (.there (.there (.there (.there (.there (.there (.there (.there (.there (.there (.here))))))))))))))))))))
theorem r21 {r r' x0 x1 x2 x3 x4 x5 x6 x7 x8 x9 x10 x11 x12 x13 x14 x15 x16 x17 x18 x19 x20 : Res} {l : List Res} : Rep r r' (x0 :: x1 :: x2 :: x3 :: x4 :: x5 :: x6 :: x7 :: x8 :: x9 :: x10 :: x11 :: x12 :: x13 :: x14 :: x15 :: x16 :: x17 :: x18 :: x19 :: x20 :: r :: l) (x0 :: x1 :: x2 :: x3 :: x4 :: x5 :: x6 :: x7 :: x8 :: x9 :: x10 :: x11 :: x12 :: x13 :: x14 :: x15 :: x16 :: x17 :: x18 :: x19 :: x20 :: r' :: l) := .there (.there (.there (.there (.there (.there (.there (.there (.there (.there (.there (.there (.there (.there (.there (.there (.there (.there (.there (.there (.there (.here)))))))))))))))))))))
theorem r22 {r r' x0 x1 x2 x3 x4 x5 x6 x7 x8 x9 x10 x11 x12 x13 x14 x15 x16 x17 x18 x19 x20 x21 : Res} {l : List Res} : Rep r r' (x0 :: x1 :: x2 :: x3 :: x4 :: x5 :: x6 :: x7 :: x8 :: x9 :: x10 :: x11 :: x12 :: x13 :: x14 :: x15 :: x16 :: x17 :: x18 :: x19 :: x20 :: x21 :: r :: l) (x0 :: x1 :: x2 :: x3 :: x4 :: x5 :: x6 :: x7 :: x8 :: x9 :: x10 :: x11 :: x12 :: x13 :: x14 :: x15 :: x16 :: x17 :: x18 :: x19 :: x20 :: x21 :: r' :: l) := .there (.there (.there (.there (.there (.there (.there (.there (.there (.there (.there (.there (.there (.there (.there (.there (.there (.there (.there (.there (.there (.there (.here))))))))))))))))))))))
theorem r23 {r r' x0 x1 x2 x3 x4 x5 x6 x7 x8 x9 x10 x11 x12 x13 x14 x15 x16 x17 x18 x19 x20 x21 x22 : Res} {l : List Res} : Rep r r' (x0 :: x1 :: x2 :: x3 :: x4 :: x5 :: x6 :: x7 :: x8 :: x9 :: x10 :: x11 :: x12 :: x13 :: x14 :: x15 :: x16 :: x17 :: x18 :: x19 :: x20 :: x21 :: x22 :: r :: l) (x0 :: x1 :: x2 :: x3 :: x4 :: x5 :: x6 :: x7 :: x8 :: x9 :: x10 :: x11 :: x12 :: x13 :: x14 :: x15 :: x16 :: x17 :: x18 :: x19 :: x20 :: x21 :: x22 :: r' :: l) := .there (.there (.there (.there (.there (.there (.there (.there (.there (.there (.there (.there (.there (.there (.there (.there (.there (.there (.there (.there (.there (.there (.there (.here)))))))))))))))))))))))
theorem newA_mk {b : Nat} {row : List Value} : NewA row (.pointer (some ⟨b, 0, none⟩)) (.cells b row) := ⟨b, rfl, rfl⟩
end Go.Proofs.Ytmmieilogpmocaa

/-
  The walks of the document's layer 4: a fraction, made.
-/
namespace Go.Proofs.Ytmmieilogpmocaa
set_option linter.unusedVariables false
set_option linter.unusedSimpArgs false
open Go.RowKit

theorem rat2_ref : Rat2 31 23 := ⟨by kernel_rfl, by kernel_rfl, by kernel_rfl, fun w => by kernel_rfl, fun w => by kernel_rfl, fun w => by kernel_rfl⟩
theorem build_q (n d : Int) (w : World) : (Instr.build 31 #[(0, iV n), (1, iV d)]).run Try.prog w = .ok (rV n d) w := by
  have hz : ∀ w, (zeroValue 31).run Try.prog w = .ok (rV 0 0) w := fun w => by rw [rV_zero]; kernel_rfl
  have hm : ∀ w, ((Try.prog.fieldsOf 31).mapM fun f => do pure (f.offset, ← sizeOf f.type) : Sem _).run Try.prog w = .ok #[(0, 4), (4, 4)] w := fun w => by kernel_rfl
  unfold Instr.build
  simp only [Sem.run_bind, hz, Result.andThen_ok, run_underlying rat2_ref.und, hm]
  have h := fill_two (.int .u64 (n % 18446744073709551616)) (.int .u64 (n / 18446744073709551616 % 18446744073709551616)) (.int .u64 (n / 340282366920938463463374607431768211456 % 18446744073709551616)) (.int .u64 (n / 6277101735386680763835789423207666416102355444464034512896 % 18446744073709551616))
    (.int .u64 (d % 18446744073709551616)) (.int .u64 (d / 18446744073709551616 % 18446744073709551616)) (.int .u64 (d / 340282366920938463463374607431768211456 % 18446744073709551616)) (.int .u64 (d / 6277101735386680763835789423207666416102355444464034512896 % 18446744073709551616)) (.int .u64 0) (.int .u64 0) (.int .u64 0) (.int .u64 0) (.int .u64 0) (.int .u64 0) (.int .u64 0) (.int .u64 0)
  rw [rV_zero]
  unfold iV
  simp only [Value.cells, h, Array.toList]
  rfl
theorem build_q0 (w : World) : (Instr.build 31 #[]).run Try.prog w = .ok (rV 0 0) w := by
  rw [rV_zero]; kernel_rfl
theorem Sl.more {F : Nat → Prop} {w : World} {l : List Res} {A : Option Addr} {xs : List Value} {r : Res} (h : Sl (FW F l) w A xs) (hr : r.ro = true) : Sl (FW F (r :: l)) w A xs := h.fewer fun k hk => by
  rcases hk with hk | ⟨q, hq, hro, hf⟩
  · exact .inl hk
  · rcases List.mem_cons.1 hq with h1 | h1
    · rw [h1, hr] at hro; cases hro
    · exact .inr ⟨q, h1, hro, hf⟩
theorem neg_of_sign {x y : Int} (h : signZ x = signZ y) : decide (x < 0) = decide (y < 0) := by
  unfold signZ at h
  by_cases hx : x < 0 <;> by_cases hy : y < 0 <;> simp only [hx, hy, if_true, if_false, decide_true, decide_false] at h ⊢ <;> (split at h <;> omega)
theorem gcd_wide {n d : Int} (hn : R256 n) (hd : R256 d) (z : Nat) (ez : gcdZ n d = (z : Int)) : R512 (z : Int) := by
  rw [← ez]
  unfold R512 gcdZ
  rw [Int.natAbs_natCast]
  by_cases h : n = 0
  · subst h
    rw [Int.gcd_zero_left]
    have := abs256 hd
    omega
  · have h1 : Int.gcd n d ≤ n.natAbs := Nat.le_of_dvd (Int.natAbs_pos.mpr h) (Nat.gcd_dvd_left _ _)
    have := abs256 hn
    omega
theorem tdiv_512 {x y : Int} (hx : R256 x) : R512 (x.tdiv y) := by
  have h1 := abs256 hx
  have h2 : (x.tdiv y).natAbs ≤ x.natAbs := by rw [Int.natAbs_tdiv]; exact Nat.div_le_self _ _
  unfold R512
  omega
set_option maxRecDepth 100000 in
set_option maxHeartbeats 16000000 in
theorem refMade_any (F : Nat → Prop) (w : World) (hF : ∀ k, F k → k < w.heap.size) (A1 A2 : Option Addr) (c1 c2 : Nat) (a b : List Nat) (n d : Int) (hn : R256 n) (hd : R256 d) (h0 : d ≠ 0) (ha : Sl F w A1 (dl a)) (hb : Sl F w A2 (dl b)) (ga : CnI a n) (gb : CnI b d)
    (ma : a.length ≤ c1) (mb : b.length ≤ c2) (ma2 : c1 ≤ maxLen) (mb2 : c2 ≤ maxLen) :
    Calls Try.prog 57 #[.agg #[.bool (decide (n < 0)), .slice A1 a.length c1], .agg #[.bool (decide (d < 0)), .slice A2 b.length c2]] w fun e w' => e = .returned (.tuple #[mkV n d, .int .i64 (mkE n d)]) ∧ Below w.heap.size w w' := by
  obtain ⟨b2, o2, H2, f2⟩ := (Own.start w).addSl (hb.ro (by rfl))
  obtain ⟨b1, o1, H, f1⟩ := H2.addSl (ha.ro (by rfl))
  clear ha hb H2
  obtain ⟨z, hz⟩ : ∃ z : Nat, Nat.gcd n.natAbs d.natAbs = z := ⟨_, rfl⟩
  have ez : gcdZ n d = (z : Int) := congrArg _ hz
  have zp := gcd_pos (n := n) h0
  rw [ez] at zp
  have wz := gcd_wide hn hd z ez
  have hG := fun F w hF A1 A2 k1 k2 a b ha hb ga gb => refGcd_any F w hF A1 A2 k1 k2 a b n d (decide (n < 0)) (decide (d < 0)) ha hb ga gb (fit450 hn ga) (fit450 hd gb)
  rw [hz] at hG
  have hWg := fun F w hF A c l ha g => refWords_any F w hF A c l (z : Int) ha g (fit1000 wz g)
  have hDn := fun F w hF A1 A2 k1 k2 a b ha hb ga gb ma mb ma2 mb2 => refDiv_any F w hF A1 A2 k1 k2 a b n (z : Int) ha hb ga gb (fit450 hn ga) (Nat.le_trans (fit32 wz gb) (by decide)) ma mb ma2 mb2 (by omega)
  have hDd := fun F w hF A1 A2 k1 k2 a b ha hb ga gb ma mb ma2 mb2 => refDiv_any F w hF A1 A2 k1 k2 a b d (z : Int) ha hb ga gb (fit450 hd ga) (Nat.le_trans (fit32 wz gb) (by decide)) ma mb ma2 mb2 (by omega)
  rw [natneg] at hWg hDn hDd
  have hNp := fun F w hF A c l ha g => refNeg_any F w hF A c l (n.tdiv z) ha g (fit1000 (tdiv_512 hn) g)
  have hNq := fun F w hF A c l ha g => refNeg_any F w hF A c l (d.tdiv z) ha g (fit1000 (tdiv_512 hd) g)
  have hsg := sign_tdiv (n := n) h0
  rw [ez] at hsg
  have fin : ∀ N D : Int, mkN n d = N → mkD n d = D → ∃ v1 v2 v3, decide (R256 (z : Int)) = v1 ∧ decide (R256 N) = v2 ∧ decide (R256 D) = v3 ∧
      ((v1 = true ∧ v2 = true ∧ v3 = true ∧ mkE n d = 0 ∧ mkV n d = rV N D ∧ fitZ N = N ∧ fitZ D = D) ∨ ((v1 = false ∨ (v1 = true ∧ v2 = false) ∨ (v1 = true ∧ v2 = true ∧ v3 = false)) ∧ mkE n d = 3 ∧ mkV n d = rV 0 0)) := by
    intro N D e1 e2
    refine ⟨_, _, _, rfl, rfl, rfl, ?_⟩
    unfold mkV mkE
    rw [if_neg h0, e1, e2, ez]
    by_cases k1 : R256 (z : Int) <;> by_cases k2 : R256 N <;> by_cases k3 : R256 D <;> simp [k1, k2, k3, fitZ]
  rcases Int.lt_trichotomy d 0 with h | h | h
  · obtain ⟨v1, v2, v3, e1, e2, e3, hv⟩ := fin (-(n.tdiv z)) (-(d.tdiv z)) (by unfold mkN; rw [if_pos h, ez]) (by unfold mkD; rw [if_pos h, ez])
    have hq : decide (d.tdiv z < 0) = true := by
      rw [neg_of_sign hsg]; simpa using h
    have hWN := fun F w hF A c l ha g => refWords_any F w hF A c l (-(n.tdiv z)) ha g (fit1000 (wide_neg (tdiv_512 hn)) g)
    have hWD := fun F w hF A c l ha g => refWords_any F w hF A c l (-(d.tdiv z)) ha g (fit1000 (wide_neg (tdiv_512 hd)) g)
    unfold RetN2 at hDd
    rw [hq] at hDd hNq
    rw [e1] at hWg
    rw [e2] at hWN
    rw [e3] at hWD
    clear fin hsg e1 e2 e3 h h0 hq zp wz ez hz
    generalize -(n.tdiv z) = N at *
    generalize -(d.tdiv z) = D at *
    rcases hv with ⟨rfl, rfl, rfl, hE, hV, eN, eD⟩ | ⟨hv, hE, hV⟩
    · rw [hE, hV]
      rw [eN] at hWN
      rw [eD] at hWD
      clear hE hV eN eD
      go_enter Try.func57, Try.ntmps57
      have tk0 : True := trivial
      have tk1 : True := trivial
      have tk2 : True := trivial
      have tk3 : True := trivial
      have tk4 : True := trivial
      have tk5 : True := trivial
      have tk6 : True := trivial
      go_wp2_with (first
        | (guard_target =~ bodyPost _ _ _ _ _ _; refine Stopped.out ?_)
        | (go_at_call 65; (with_reducible refine (hG (FW F _) _ (H.fw_lt rfl hF) _ _ _ _ a b (by exact H.giveRd m3 f1) (by exact H.giveRd m4 f2) ga gb ma mb ma2 mb2).mono ?_); rintro e w3 ⟨A5, k5, l5, rfl, hb, s5, g5, q5, p5⟩; replace H := H.ext hb; clear hb; obtain ⟨b5, o5, H4, f5⟩ := H.addSl s5; clear H s5; have H := H4; clear H4; dsimp only)
        | (go_at_call 71; (with_reducible refine (hWg (FW F _) _ (H.fw_lt rfl hF) _ _ l5 (by first | exact H.giveRd m1 f5 | exact H.giveRd m6 f5 | exact H.giveRd m7 f5) g5 q5 p5).mono ?_); rintro e w3 ⟨rfl, hb⟩; replace H := H.ext hb; clear hb; dsimp only)
        | (go_at_call 69; (with_reducible refine (hDn (FW F _) _ (H.fw_lt rfl hF) _ _ _ _ a l5 (by first | exact H.giveRd m6 f1 | exact H.giveRd m7 f1) (by first | exact H.giveRd m2 f5 | exact H.giveRd m3 f5) ga g5 ma q5 ma2 p5).mono ?_); rintro e w3 ⟨A6, k6, l6, A7, k7, l7, rfl, hb, s6, g6, q6, p6, _, _, _, _⟩; replace H := H.ext hb; clear hb; obtain ⟨b6, o6, H4, f6⟩ := H.addSl s6; clear H s6; have H := H4; clear H4; dsimp only)
        | (go_at_call 69; (with_reducible refine (hDd (FW F _) _ (H.fw_lt rfl hF) _ _ _ _ b l5 (by exact H.giveRd m8 f2) (by exact H.giveRd m3 f5) gb g5 mb q5 mb2 p5).mono ?_); rintro e w3 ⟨A8, k8, l8, A9, k9, l9, rfl, hb, s8, g8, q8, p8, _, _, _, _⟩; replace H := H.ext hb; clear hb; obtain ⟨b8, o8, H4, f8⟩ := H.addSl s8; clear H s8; have H := H4; clear H4; dsimp only)
        | (go_at_call 81; (with_reducible refine (hNp (FW F _) _ (H.fw_lt rfl hF) _ _ l6 (by first | exact H.giveRd m1 f6 | exact H.giveRd m2 f6) g6 q6 p6).mono ?_); rintro e w3 ⟨A10, k10, l10, rfl, hb, s10, g10, q10, p10⟩; replace H := H.ext hb; clear hb; obtain ⟨b10, o10, H4, f10⟩ := H.addSl s10; clear H s10; have H := H4; clear H4; dsimp only)
        | (go_at_call 81; (with_reducible refine (hNq (FW F _) _ (H.fw_lt rfl hF) _ _ l8 (by exact H.giveRd m1 f8) g8 q8 p8).mono ?_); rintro e w3 ⟨A11, k11, l11, rfl, hb, s11, g11, q11, p11⟩; replace H := H.ext hb; clear hb; obtain ⟨b11, o11, H4, f11⟩ := H.addSl s11; clear H s11; have H := H4; clear H4; dsimp only)
        | (go_at_call 71; (with_reducible refine (hWN (FW F _) _ (H.fw_lt rfl hF) _ _ l10 (by first | exact H.giveRd m1 f10 | exact H.giveRd m2 f10) g10 q10 p10).mono ?_); rintro e w3 ⟨rfl, hb⟩; replace H := H.ext hb; clear hb; dsimp only)
        | (go_at_call 71; (with_reducible refine (hWD (FW F _) _ (H.fw_lt rfl hF) _ _ l11 (by exact H.giveRd m1 f11) g11 q11 p11).mono ?_); rintro e w3 ⟨rfl, hb⟩; replace H := H.ext hb; clear hb; dsimp only)
        | (guard_target =~ wpList _ _ _ (_ :: _) _ _; (first | (guard_target =~ wpList _ _ _ (Oper.mk _ (.load _ _) _ _ _ _ :: _) _ _; refine BigFrame.wpList_want rfl (fun K hK => ?_); (first | (refine o_loadC (v := ?_) (row := ?_) rfl rfl H ?_ ?_ ?_ (hK _ _ ?_); rotate_left 2; (repeat first | exact .head _ | apply List.Mem.tail); (exact rfl); (focus (intro _; simp [cells_iV, iL_length, setL_i, setL_ii, agg_iL, cells_rV, rL_length, setL_r, setL_rr, agg_rL]; done))) | (refine o_loadNC (row := ?_) rfl rfl H ?_ ?_ ?_ (hK _ _ ?_); rotate_left 1; (repeat first | exact .head _ | apply List.Mem.tail); (focus (intro _; simp [cells_iV, iL_length, setL_i, setL_ii, agg_iL, cells_rV, rL_length, setL_r, setL_rr, agg_rL]; done)); (focus (intro _; simp [cells_iV, iL_length, setL_i, setL_ii, agg_iL, cells_rV, rL_length, setL_r, setL_rr, agg_rL]; done)))); clear hK K) | (guard_target =~ wpList _ _ _ (Oper.mk _ (.build _ _) _ _ _ _ :: _) _ _; refine BigFrame.wpList_want rfl (fun K hK => ?_); (refine o_build (v := ?_) (ps := ?_) rfl ?_ ?_ (hK _ _ ?_); rotate_left 2; (focus (simp [Act.eval]; with_reducible exact rfl)); (focus (intro w4; with_reducible exact build_q _ _ w4))); clear hK K) | (guard_target =~ wpList _ _ _ (Oper.mk _ (.store _ _ _) _ _ _ _ :: _) _ _; refine BigFrame.wpList_want rfl (fun K hK => ?_); refine o_store (l' := ?_) (row := ?_) rfl rfl H rfl ?_ ?_ ?_ ?_ (fun w3 H2 => hK _ _ ?_); rotate_left 2; (first | exact r0 | exact r6 | exact r8 | exact r9); (focus (intro _; (first | (simp [Act.eval, List.getD, cells_iV, iL_length, setL_i, setL_ii, agg_iL, cells_rV, rL_length, setL_r, setL_rr, agg_rL]; done) | (simp [Act.eval, Value.cells, List.getD, cells_iV, iL_length, setL_i, setL_ii, agg_iL, cells_rV, rL_length, setL_r, setL_rr, agg_rL]; done)))); (focus (first | (simp [Act.eval, List.getD, cells_iV, iL_length, setL_i, setL_ii, agg_iL, cells_rV, rL_length, setL_r, setL_rr, agg_rL]; done) | (simp [Act.eval, Value.cells, List.getD, cells_iV, iL_length, setL_i, setL_ii, agg_iL, cells_rV, rL_length, setL_r, setL_rr, agg_rL]; done))); (exact rfl); clear hK K; clear H; (try clear w2); revert w3; intro w2 H; (try simp [Act.eval, List.getD, cells_iV, iL_length, setL_i, setL_ii, agg_iL, cells_rV, rL_length, setL_r, setL_rr, agg_rL] at H); (try simp [Value.cells, setL, cells_iV, iL_length, setL_i, setL_ii, agg_iL, cells_rV, rL_length, setL_r, setL_rr, agg_rL] at H)) | ((first | (guard_target =~ wpList _ _ _ (Oper.mk _ (.alloc _) _ _ _ _ :: _) _ _; refine BigFrame.wpList_want rfl (fun K hK => ?_); refine o_alloc (z := ?_) rfl ?_ H rfl (fun w3 b2 he H2 => hK _ _ ?_); rotate_left 1; (focus (intro _; simp; with_reducible exact rfl))) | (guard_target =~ wpList _ _ _ (Oper.mk _ (.box _ _) _ _ _ _ :: _) _ _; refine BigFrame.wpList_want rfl (fun K hK => ?_); refine o_box rfl H rfl (fun w3 b2 he H2 => hK _ _ ?_))); clear hK K he; clear H; (try clear w2); revert w3; intro w2 H; (try simp [Act.eval, List.getD, cells_iV, iL_length, setL_i, setL_ii, agg_iL, cells_rV, rL_length, setL_r, setL_rr, agg_rL] at H); (try simp [Value.cells, setL, cells_iV, iL_length, setL_i, setL_ii, agg_iL, cells_rV, rL_length, setL_r, setL_rr, agg_rL] at H); (first | (clear tk0; rename Nat => c1) | (clear tk1; rename Nat => c2) | (clear tk2; rename Nat => c3) | (clear tk3; rename Nat => c4) | (clear tk4; rename Nat => c5) | (clear tk5; rename Nat => c6) | (clear tk6; rename Nat => c7)))); simp only [Act.put, List.setIfInBounds_toArray, List.set_cons_succ, List.set_cons_zero, cells_iV, iL_length, setL_i, setL_ii, agg_iL, cells_rV, rL_length, setL_r, setL_rr, agg_rL]))
      have hr := H.loadVarN (P := Try.prog) (ty := 31) (b := c3) (row := rL N D) (by simp) (by simp) (by simp [rL_length])
      exact ⟨bodyPost_ret (v := .tuple #[rV N D, .int .i64 0]) (by simp [results, Try.results57, asAddr, hr, agg_rL]) rfl ⟨rfl, H.below⟩⟩
    · rw [hE, hV]
      clear hE hV
      rcases hv with rfl | ⟨rfl, rfl⟩ | ⟨rfl, rfl, rfl⟩
      all_goals
       go_enter Try.func57, Try.ntmps57
       have tk0 : True := trivial
       have tk1 : True := trivial
       have tk2 : True := trivial
       have tk3 : True := trivial
       have tk4 : True := trivial
       have tk5 : True := trivial
       have tk6 : True := trivial
       go_wp2_with (first
         | (guard_target =~ bodyPost _ _ _ _ _ _; refine Stopped.out ?_)
         | (go_at_call 65; (with_reducible refine (hG (FW F _) _ (H.fw_lt rfl hF) _ _ _ _ a b (by exact H.giveRd m3 f1) (by exact H.giveRd m4 f2) ga gb ma mb ma2 mb2).mono ?_); rintro e w3 ⟨A5, k5, l5, rfl, hb, s5, g5, q5, p5⟩; replace H := H.ext hb; clear hb; obtain ⟨b5, o5, H4, f5⟩ := H.addSl s5; clear H s5; have H := H4; clear H4; dsimp only)
         | (go_at_call 71; (with_reducible refine (hWg (FW F _) _ (H.fw_lt rfl hF) _ _ l5 (by first | exact H.giveRd m1 f5 | exact H.giveRd m6 f5 | exact H.giveRd m7 f5) g5 q5 p5).mono ?_); rintro e w3 ⟨rfl, hb⟩; replace H := H.ext hb; clear hb; dsimp only)
         | (go_at_call 69; (with_reducible refine (hDn (FW F _) _ (H.fw_lt rfl hF) _ _ _ _ a l5 (by first | exact H.giveRd m6 f1 | exact H.giveRd m7 f1) (by first | exact H.giveRd m2 f5 | exact H.giveRd m3 f5) ga g5 ma q5 ma2 p5).mono ?_); rintro e w3 ⟨A6, k6, l6, A7, k7, l7, rfl, hb, s6, g6, q6, p6, _, _, _, _⟩; replace H := H.ext hb; clear hb; obtain ⟨b6, o6, H4, f6⟩ := H.addSl s6; clear H s6; have H := H4; clear H4; dsimp only)
         | (go_at_call 69; (with_reducible refine (hDd (FW F _) _ (H.fw_lt rfl hF) _ _ _ _ b l5 (by exact H.giveRd m8 f2) (by exact H.giveRd m3 f5) gb g5 mb q5 mb2 p5).mono ?_); rintro e w3 ⟨A8, k8, l8, A9, k9, l9, rfl, hb, s8, g8, q8, p8, _, _, _, _⟩; replace H := H.ext hb; clear hb; obtain ⟨b8, o8, H4, f8⟩ := H.addSl s8; clear H s8; have H := H4; clear H4; dsimp only)
         | (go_at_call 81; (with_reducible refine (hNp (FW F _) _ (H.fw_lt rfl hF) _ _ l6 (by first | exact H.giveRd m1 f6 | exact H.giveRd m2 f6) g6 q6 p6).mono ?_); rintro e w3 ⟨A10, k10, l10, rfl, hb, s10, g10, q10, p10⟩; replace H := H.ext hb; clear hb; obtain ⟨b10, o10, H4, f10⟩ := H.addSl s10; clear H s10; have H := H4; clear H4; dsimp only)
         | (go_at_call 81; (with_reducible refine (hNq (FW F _) _ (H.fw_lt rfl hF) _ _ l8 (by exact H.giveRd m1 f8) g8 q8 p8).mono ?_); rintro e w3 ⟨A11, k11, l11, rfl, hb, s11, g11, q11, p11⟩; replace H := H.ext hb; clear hb; obtain ⟨b11, o11, H4, f11⟩ := H.addSl s11; clear H s11; have H := H4; clear H4; dsimp only)
         | (go_at_call 71; (with_reducible refine (hWN (FW F _) _ (H.fw_lt rfl hF) _ _ l10 (by first | exact H.giveRd m1 f10 | exact H.giveRd m2 f10) g10 q10 p10).mono ?_); rintro e w3 ⟨rfl, hb⟩; replace H := H.ext hb; clear hb; dsimp only)
         | (go_at_call 71; (with_reducible refine (hWD (FW F _) _ (H.fw_lt rfl hF) _ _ l11 (by exact H.giveRd m1 f11) g11 q11 p11).mono ?_); rintro e w3 ⟨rfl, hb⟩; replace H := H.ext hb; clear hb; dsimp only)
         | (guard_target =~ wpList _ _ _ (_ :: _) _ _; (first | (guard_target =~ wpList _ _ _ (Oper.mk _ (.load _ _) _ _ _ _ :: _) _ _; refine BigFrame.wpList_want rfl (fun K hK => ?_); (first | (refine o_loadC (v := ?_) (row := ?_) rfl rfl H ?_ ?_ ?_ (hK _ _ ?_); rotate_left 2; (repeat first | exact .head _ | apply List.Mem.tail); (exact rfl); (focus (intro _; simp [cells_iV, iL_length, setL_i, setL_ii, agg_iL, cells_rV, rL_length, setL_r, setL_rr, agg_rL]; done))) | (refine o_loadNC (row := ?_) rfl rfl H ?_ ?_ ?_ (hK _ _ ?_); rotate_left 1; (repeat first | exact .head _ | apply List.Mem.tail); (focus (intro _; simp [cells_iV, iL_length, setL_i, setL_ii, agg_iL, cells_rV, rL_length, setL_r, setL_rr, agg_rL]; done)); (focus (intro _; simp [cells_iV, iL_length, setL_i, setL_ii, agg_iL, cells_rV, rL_length, setL_r, setL_rr, agg_rL]; done)))); clear hK K) | (guard_target =~ wpList _ _ _ (Oper.mk _ (.build _ _) _ _ _ _ :: _) _ _; refine BigFrame.wpList_want rfl (fun K hK => ?_); (refine o_build (v := ?_) (ps := ?_) rfl ?_ ?_ (hK _ _ ?_); rotate_left 2; (focus (simp [Act.eval]; with_reducible exact rfl)); (focus (intro w4; with_reducible exact build_q0 w4))); clear hK K) | (guard_target =~ wpList _ _ _ (Oper.mk _ (.store _ _ _) _ _ _ _ :: _) _ _; refine BigFrame.wpList_want rfl (fun K hK => ?_); refine o_store (l' := ?_) (row := ?_) rfl rfl H rfl ?_ ?_ ?_ ?_ (fun w3 H2 => hK _ _ ?_); rotate_left 2; (first | exact r0 | exact r6 | exact r8 | exact r9); (focus (intro _; (first | (simp [Act.eval, List.getD, cells_iV, iL_length, setL_i, setL_ii, agg_iL, cells_rV, rL_length, setL_r, setL_rr, agg_rL]; done) | (simp [Act.eval, Value.cells, List.getD, cells_iV, iL_length, setL_i, setL_ii, agg_iL, cells_rV, rL_length, setL_r, setL_rr, agg_rL]; done)))); (focus (first | (simp [Act.eval, List.getD, cells_iV, iL_length, setL_i, setL_ii, agg_iL, cells_rV, rL_length, setL_r, setL_rr, agg_rL]; done) | (simp [Act.eval, Value.cells, List.getD, cells_iV, iL_length, setL_i, setL_ii, agg_iL, cells_rV, rL_length, setL_r, setL_rr, agg_rL]; done))); (exact rfl); clear hK K; clear H; (try clear w2); revert w3; intro w2 H; (try simp [Act.eval, List.getD, cells_iV, iL_length, setL_i, setL_ii, agg_iL, cells_rV, rL_length, setL_r, setL_rr, agg_rL] at H); (try simp [Value.cells, setL, cells_iV, iL_length, setL_i, setL_ii, agg_iL, cells_rV, rL_length, setL_r, setL_rr, agg_rL] at H)) | ((first | (guard_target =~ wpList _ _ _ (Oper.mk _ (.alloc _) _ _ _ _ :: _) _ _; refine BigFrame.wpList_want rfl (fun K hK => ?_); refine o_alloc (z := ?_) rfl ?_ H rfl (fun w3 b2 he H2 => hK _ _ ?_); rotate_left 1; (focus (intro _; simp; with_reducible exact rfl))) | (guard_target =~ wpList _ _ _ (Oper.mk _ (.box _ _) _ _ _ _ :: _) _ _; refine BigFrame.wpList_want rfl (fun K hK => ?_); refine o_box rfl H rfl (fun w3 b2 he H2 => hK _ _ ?_))); clear hK K he; clear H; (try clear w2); revert w3; intro w2 H; (try simp [Act.eval, List.getD, cells_iV, iL_length, setL_i, setL_ii, agg_iL, cells_rV, rL_length, setL_r, setL_rr, agg_rL] at H); (try simp [Value.cells, setL, cells_iV, iL_length, setL_i, setL_ii, agg_iL, cells_rV, rL_length, setL_r, setL_rr, agg_rL] at H); (first | (clear tk0; rename Nat => c1) | (clear tk1; rename Nat => c2) | (clear tk2; rename Nat => c3) | (clear tk3; rename Nat => c4) | (clear tk4; rename Nat => c5) | (clear tk5; rename Nat => c6) | (clear tk6; rename Nat => c7)))); simp only [Act.put, List.setIfInBounds_toArray, List.set_cons_succ, List.set_cons_zero, cells_iV, iL_length, setL_i, setL_ii, agg_iL, cells_rV, rL_length, setL_r, setL_rr, agg_rL]))
       have hr := H.loadVarN (P := Try.prog) (ty := 31) (b := c3) (row := rL 0 0) (by simp) (by simp) (by simp [rL_length])
       exact ⟨bodyPost_ret (v := .tuple #[rV 0 0, .int .i64 3]) (by simp [results, Try.results57, asAddr, hr, agg_rL]) rfl ⟨rfl, H.below⟩⟩
  · exact absurd h h0
  · obtain ⟨v1, v2, v3, e1, e2, e3, hv⟩ := fin (n.tdiv z) (d.tdiv z) (by unfold mkN; rw [if_neg (by omega), ez]) (by unfold mkD; rw [if_neg (by omega), ez])
    have hq : decide (d.tdiv z < 0) = false := by
      rw [neg_of_sign hsg]; simp; omega
    have hWN := fun F w hF A c l ha g => refWords_any F w hF A c l (n.tdiv z) ha g (fit1000 (tdiv_512 hn) g)
    have hWD := fun F w hF A c l ha g => refWords_any F w hF A c l (d.tdiv z) ha g (fit1000 (tdiv_512 hd) g)
    unfold RetN2 at hDd
    rw [hq] at hDd hWD
    rw [e1] at hWg
    rw [e2] at hWN
    rw [e3] at hWD
    clear fin hsg e1 e2 e3 h h0 hq zp wz ez hz hNp hNq
    generalize n.tdiv z = N at *
    generalize d.tdiv z = D at *
    rcases hv with ⟨rfl, rfl, rfl, hE, hV, eN, eD⟩ | ⟨hv, hE, hV⟩
    · rw [hE, hV]
      rw [eN] at hWN
      rw [eD] at hWD
      clear hE hV eN eD
      go_enter Try.func57, Try.ntmps57
      have tk0 : True := trivial
      have tk1 : True := trivial
      have tk2 : True := trivial
      have tk3 : True := trivial
      have tk4 : True := trivial
      have tk5 : True := trivial
      have tk6 : True := trivial
      go_wp2_with (first
        | (guard_target =~ bodyPost _ _ _ _ _ _; refine Stopped.out ?_)
        | (go_at_call 65; (with_reducible refine (hG (FW F _) _ (H.fw_lt rfl hF) _ _ _ _ a b (by exact H.giveRd m3 f1) (by exact H.giveRd m4 f2) ga gb ma mb ma2 mb2).mono ?_); rintro e w3 ⟨A5, k5, l5, rfl, hb, s5, g5, q5, p5⟩; replace H := H.ext hb; clear hb; obtain ⟨b5, o5, H4, f5⟩ := H.addSl s5; clear H s5; have H := H4; clear H4; dsimp only)
        | (go_at_call 71; (with_reducible refine (hWg (FW F _) _ (H.fw_lt rfl hF) _ _ l5 (by first | exact H.giveRd m1 f5 | exact H.giveRd m4 f5 | exact H.giveRd m5 f5) g5 q5 p5).mono ?_); rintro e w3 ⟨rfl, hb⟩; replace H := H.ext hb; clear hb; dsimp only)
        | (go_at_call 69; (with_reducible refine (hDn (FW F _) _ (H.fw_lt rfl hF) _ _ _ _ a l5 (by first | exact H.giveRd m6 f1 | exact H.giveRd m7 f1) (by first | exact H.giveRd m2 f5 | exact H.giveRd m3 f5) ga g5 ma q5 ma2 p5).mono ?_); rintro e w3 ⟨A6, k6, l6, A7, k7, l7, rfl, hb, s6, g6, q6, p6, _, _, _, _⟩; replace H := H.ext hb; clear hb; obtain ⟨b6, o6, H4, f6⟩ := H.addSl s6; clear H s6; have H := H4; clear H4; dsimp only)
        | (go_at_call 69; (with_reducible refine (hDd (FW F _) _ (H.fw_lt rfl hF) _ _ _ _ b l5 (by exact H.giveRd m8 f2) (by exact H.giveRd m3 f5) gb g5 mb q5 mb2 p5).mono ?_); rintro e w3 ⟨A8, k8, l8, A9, k9, l9, rfl, hb, s8, g8, q8, p8, _, _, _, _⟩; replace H := H.ext hb; clear hb; obtain ⟨b8, o8, H4, f8⟩ := H.addSl s8; clear H s8; have H := H4; clear H4; dsimp only)
        | (go_at_call 71; (with_reducible refine (hWN (FW F _) _ (H.fw_lt rfl hF) _ _ l6 (by first | exact H.giveRd m1 f6 | exact H.giveRd m2 f6) g6 q6 p6).mono ?_); rintro e w3 ⟨rfl, hb⟩; replace H := H.ext hb; clear hb; dsimp only)
        | (go_at_call 71; (with_reducible refine (hWD (FW F _) _ (H.fw_lt rfl hF) _ _ l8 (by exact H.giveRd m1 f8) g8 q8 p8).mono ?_); rintro e w3 ⟨rfl, hb⟩; replace H := H.ext hb; clear hb; dsimp only)
        | (guard_target =~ wpList _ _ _ (_ :: _) _ _; (first | (guard_target =~ wpList _ _ _ (Oper.mk _ (.load _ _) _ _ _ _ :: _) _ _; refine BigFrame.wpList_want rfl (fun K hK => ?_); (first | (refine o_loadC (v := ?_) (row := ?_) rfl rfl H ?_ ?_ ?_ (hK _ _ ?_); rotate_left 2; (repeat first | exact .head _ | apply List.Mem.tail); (exact rfl); (focus (intro _; simp [cells_iV, iL_length, setL_i, setL_ii, agg_iL, cells_rV, rL_length, setL_r, setL_rr, agg_rL]; done))) | (refine o_loadNC (row := ?_) rfl rfl H ?_ ?_ ?_ (hK _ _ ?_); rotate_left 1; (repeat first | exact .head _ | apply List.Mem.tail); (focus (intro _; simp [cells_iV, iL_length, setL_i, setL_ii, agg_iL, cells_rV, rL_length, setL_r, setL_rr, agg_rL]; done)); (focus (intro _; simp [cells_iV, iL_length, setL_i, setL_ii, agg_iL, cells_rV, rL_length, setL_r, setL_rr, agg_rL]; done)))); clear hK K) | (guard_target =~ wpList _ _ _ (Oper.mk _ (.build _ _) _ _ _ _ :: _) _ _; refine BigFrame.wpList_want rfl (fun K hK => ?_); (refine o_build (v := ?_) (ps := ?_) rfl ?_ ?_ (hK _ _ ?_); rotate_left 2; (focus (simp [Act.eval]; with_reducible exact rfl)); (focus (intro w4; with_reducible exact build_q _ _ w4))); clear hK K) | (guard_target =~ wpList _ _ _ (Oper.mk _ (.store _ _ _) _ _ _ _ :: _) _ _; refine BigFrame.wpList_want rfl (fun K hK => ?_); refine o_store (l' := ?_) (row := ?_) rfl rfl H rfl ?_ ?_ ?_ ?_ (fun w3 H2 => hK _ _ ?_); rotate_left 2; (first | exact r0 | exact r6 | exact r7); (focus (intro _; (first | (simp [Act.eval, List.getD, cells_iV, iL_length, setL_i, setL_ii, agg_iL, cells_rV, rL_length, setL_r, setL_rr, agg_rL]; done) | (simp [Act.eval, Value.cells, List.getD, cells_iV, iL_length, setL_i, setL_ii, agg_iL, cells_rV, rL_length, setL_r, setL_rr, agg_rL]; done)))); (focus (first | (simp [Act.eval, List.getD, cells_iV, iL_length, setL_i, setL_ii, agg_iL, cells_rV, rL_length, setL_r, setL_rr, agg_rL]; done) | (simp [Act.eval, Value.cells, List.getD, cells_iV, iL_length, setL_i, setL_ii, agg_iL, cells_rV, rL_length, setL_r, setL_rr, agg_rL]; done))); (exact rfl); clear hK K; clear H; (try clear w2); revert w3; intro w2 H; (try simp [Act.eval, List.getD, cells_iV, iL_length, setL_i, setL_ii, agg_iL, cells_rV, rL_length, setL_r, setL_rr, agg_rL] at H); (try simp [Value.cells, setL, cells_iV, iL_length, setL_i, setL_ii, agg_iL, cells_rV, rL_length, setL_r, setL_rr, agg_rL] at H)) | ((first | (guard_target =~ wpList _ _ _ (Oper.mk _ (.alloc _) _ _ _ _ :: _) _ _; refine BigFrame.wpList_want rfl (fun K hK => ?_); refine o_alloc (z := ?_) rfl ?_ H rfl (fun w3 b2 he H2 => hK _ _ ?_); rotate_left 1; (focus (intro _; simp; with_reducible exact rfl))) | (guard_target =~ wpList _ _ _ (Oper.mk _ (.box _ _) _ _ _ _ :: _) _ _; refine BigFrame.wpList_want rfl (fun K hK => ?_); refine o_box rfl H rfl (fun w3 b2 he H2 => hK _ _ ?_))); clear hK K he; clear H; (try clear w2); revert w3; intro w2 H; (try simp [Act.eval, List.getD, cells_iV, iL_length, setL_i, setL_ii, agg_iL, cells_rV, rL_length, setL_r, setL_rr, agg_rL] at H); (try simp [Value.cells, setL, cells_iV, iL_length, setL_i, setL_ii, agg_iL, cells_rV, rL_length, setL_r, setL_rr, agg_rL] at H); (first | (clear tk0; rename Nat => c1) | (clear tk1; rename Nat => c2) | (clear tk2; rename Nat => c3) | (clear tk3; rename Nat => c4) | (clear tk4; rename Nat => c5) | (clear tk5; rename Nat => c6) | (clear tk6; rename Nat => c7)))); simp only [Act.put, List.setIfInBounds_toArray, List.set_cons_succ, List.set_cons_zero, cells_iV, iL_length, setL_i, setL_ii, agg_iL, cells_rV, rL_length, setL_r, setL_rr, agg_rL]))
      have hr := H.loadVarN (P := Try.prog) (ty := 31) (b := c3) (row := rL N D) (by simp) (by simp) (by simp [rL_length])
      exact ⟨bodyPost_ret (v := .tuple #[rV N D, .int .i64 0]) (by simp [results, Try.results57, asAddr, hr, agg_rL]) rfl ⟨rfl, H.below⟩⟩
    · rw [hE, hV]
      clear hE hV
      rcases hv with rfl | ⟨rfl, rfl⟩ | ⟨rfl, rfl, rfl⟩
      all_goals
       go_enter Try.func57, Try.ntmps57
       have tk0 : True := trivial
       have tk1 : True := trivial
       have tk2 : True := trivial
       have tk3 : True := trivial
       have tk4 : True := trivial
       have tk5 : True := trivial
       have tk6 : True := trivial
       go_wp2_with (first
         | (guard_target =~ bodyPost _ _ _ _ _ _; refine Stopped.out ?_)
         | (go_at_call 65; (with_reducible refine (hG (FW F _) _ (H.fw_lt rfl hF) _ _ _ _ a b (by exact H.giveRd m3 f1) (by exact H.giveRd m4 f2) ga gb ma mb ma2 mb2).mono ?_); rintro e w3 ⟨A5, k5, l5, rfl, hb, s5, g5, q5, p5⟩; replace H := H.ext hb; clear hb; obtain ⟨b5, o5, H4, f5⟩ := H.addSl s5; clear H s5; have H := H4; clear H4; dsimp only)
         | (go_at_call 71; (with_reducible refine (hWg (FW F _) _ (H.fw_lt rfl hF) _ _ l5 (by first | exact H.giveRd m1 f5 | exact H.giveRd m4 f5 | exact H.giveRd m5 f5) g5 q5 p5).mono ?_); rintro e w3 ⟨rfl, hb⟩; replace H := H.ext hb; clear hb; dsimp only)
         | (go_at_call 69; (with_reducible refine (hDn (FW F _) _ (H.fw_lt rfl hF) _ _ _ _ a l5 (by first | exact H.giveRd m6 f1 | exact H.giveRd m7 f1) (by first | exact H.giveRd m2 f5 | exact H.giveRd m3 f5) ga g5 ma q5 ma2 p5).mono ?_); rintro e w3 ⟨A6, k6, l6, A7, k7, l7, rfl, hb, s6, g6, q6, p6, _, _, _, _⟩; replace H := H.ext hb; clear hb; obtain ⟨b6, o6, H4, f6⟩ := H.addSl s6; clear H s6; have H := H4; clear H4; dsimp only)
         | (go_at_call 69; (with_reducible refine (hDd (FW F _) _ (H.fw_lt rfl hF) _ _ _ _ b l5 (by exact H.giveRd m8 f2) (by exact H.giveRd m3 f5) gb g5 mb q5 mb2 p5).mono ?_); rintro e w3 ⟨A8, k8, l8, A9, k9, l9, rfl, hb, s8, g8, q8, p8, _, _, _, _⟩; replace H := H.ext hb; clear hb; obtain ⟨b8, o8, H4, f8⟩ := H.addSl s8; clear H s8; have H := H4; clear H4; dsimp only)
         | (go_at_call 71; (with_reducible refine (hWN (FW F _) _ (H.fw_lt rfl hF) _ _ l6 (by first | exact H.giveRd m1 f6 | exact H.giveRd m2 f6) g6 q6 p6).mono ?_); rintro e w3 ⟨rfl, hb⟩; replace H := H.ext hb; clear hb; dsimp only)
         | (go_at_call 71; (with_reducible refine (hWD (FW F _) _ (H.fw_lt rfl hF) _ _ l8 (by exact H.giveRd m1 f8) g8 q8 p8).mono ?_); rintro e w3 ⟨rfl, hb⟩; replace H := H.ext hb; clear hb; dsimp only)
         | (guard_target =~ wpList _ _ _ (_ :: _) _ _; (first | (guard_target =~ wpList _ _ _ (Oper.mk _ (.load _ _) _ _ _ _ :: _) _ _; refine BigFrame.wpList_want rfl (fun K hK => ?_); (first | (refine o_loadC (v := ?_) (row := ?_) rfl rfl H ?_ ?_ ?_ (hK _ _ ?_); rotate_left 2; (repeat first | exact .head _ | apply List.Mem.tail); (exact rfl); (focus (intro _; simp [cells_iV, iL_length, setL_i, setL_ii, agg_iL, cells_rV, rL_length, setL_r, setL_rr, agg_rL]; done))) | (refine o_loadNC (row := ?_) rfl rfl H ?_ ?_ ?_ (hK _ _ ?_); rotate_left 1; (repeat first | exact .head _ | apply List.Mem.tail); (focus (intro _; simp [cells_iV, iL_length, setL_i, setL_ii, agg_iL, cells_rV, rL_length, setL_r, setL_rr, agg_rL]; done)); (focus (intro _; simp [cells_iV, iL_length, setL_i, setL_ii, agg_iL, cells_rV, rL_length, setL_r, setL_rr, agg_rL]; done)))); clear hK K) | (guard_target =~ wpList _ _ _ (Oper.mk _ (.build _ _) _ _ _ _ :: _) _ _; refine BigFrame.wpList_want rfl (fun K hK => ?_); (refine o_build (v := ?_) (ps := ?_) rfl ?_ ?_ (hK _ _ ?_); rotate_left 2; (focus (simp [Act.eval]; with_reducible exact rfl)); (focus (intro w4; with_reducible exact build_q0 w4))); clear hK K) | (guard_target =~ wpList _ _ _ (Oper.mk _ (.store _ _ _) _ _ _ _ :: _) _ _; refine BigFrame.wpList_want rfl (fun K hK => ?_); refine o_store (l' := ?_) (row := ?_) rfl rfl H rfl ?_ ?_ ?_ ?_ (fun w3 H2 => hK _ _ ?_); rotate_left 2; (first | exact r0 | exact r6 | exact r7); (focus (intro _; (first | (simp [Act.eval, List.getD, cells_iV, iL_length, setL_i, setL_ii, agg_iL, cells_rV, rL_length, setL_r, setL_rr, agg_rL]; done) | (simp [Act.eval, Value.cells, List.getD, cells_iV, iL_length, setL_i, setL_ii, agg_iL, cells_rV, rL_length, setL_r, setL_rr, agg_rL]; done)))); (focus (first | (simp [Act.eval, List.getD, cells_iV, iL_length, setL_i, setL_ii, agg_iL, cells_rV, rL_length, setL_r, setL_rr, agg_rL]; done) | (simp [Act.eval, Value.cells, List.getD, cells_iV, iL_length, setL_i, setL_ii, agg_iL, cells_rV, rL_length, setL_r, setL_rr, agg_rL]; done))); (exact rfl); clear hK K; clear H; (try clear w2); revert w3; intro w2 H; (try simp [Act.eval, List.getD, cells_iV, iL_length, setL_i, setL_ii, agg_iL, cells_rV, rL_length, setL_r, setL_rr, agg_rL] at H); (try simp [Value.cells, setL, cells_iV, iL_length, setL_i, setL_ii, agg_iL, cells_rV, rL_length, setL_r, setL_rr, agg_rL] at H)) | ((first | (guard_target =~ wpList _ _ _ (Oper.mk _ (.alloc _) _ _ _ _ :: _) _ _; refine BigFrame.wpList_want rfl (fun K hK => ?_); refine o_alloc (z := ?_) rfl ?_ H rfl (fun w3 b2 he H2 => hK _ _ ?_); rotate_left 1; (focus (intro _; simp; with_reducible exact rfl))) | (guard_target =~ wpList _ _ _ (Oper.mk _ (.box _ _) _ _ _ _ :: _) _ _; refine BigFrame.wpList_want rfl (fun K hK => ?_); refine o_box rfl H rfl (fun w3 b2 he H2 => hK _ _ ?_))); clear hK K he; clear H; (try clear w2); revert w3; intro w2 H; (try simp [Act.eval, List.getD, cells_iV, iL_length, setL_i, setL_ii, agg_iL, cells_rV, rL_length, setL_r, setL_rr, agg_rL] at H); (try simp [Value.cells, setL, cells_iV, iL_length, setL_i, setL_ii, agg_iL, cells_rV, rL_length, setL_r, setL_rr, agg_rL] at H); (first | (clear tk0; rename Nat => c1) | (clear tk1; rename Nat => c2) | (clear tk2; rename Nat => c3) | (clear tk3; rename Nat => c4) | (clear tk4; rename Nat => c5) | (clear tk5; rename Nat => c6) | (clear tk6; rename Nat => c7)))); simp only [Act.put, List.setIfInBounds_toArray, List.set_cons_succ, List.set_cons_zero, cells_iV, iL_length, setL_i, setL_ii, agg_iL, cells_rV, rL_length, setL_r, setL_rr, agg_rL]))
       have hr := H.loadVarN (P := Try.prog) (ty := 31) (b := c3) (row := rL 0 0) (by simp) (by simp) (by simp [rL_length])
       exact ⟨bodyPost_ret (v := .tuple #[rV 0 0, .int .i64 3]) (by simp [results, Try.results57, asAddr, hr, agg_rL]) rfl ⟨rfl, H.below⟩⟩
end Go.Proofs.Ytmmieilogpmocaa

/-
  The walks of the document's layer 3: products.
-/
namespace Go.Proofs.Ytmmieilogpmocaa
set_option linter.unusedVariables false
set_option linter.unusedSimpArgs false
open Go.RowKit

theorem sgn_mul {x y : Int} {a b : List Nat} (ga : CnI a x) (gb : CnI b y) : sgn (!(decide (x < 0) == decide (y < 0))) (val a * val b) = x * y := by
  rw [ga.2.2, gb.2.2]; unfold sgn
  by_cases hx : x < 0 <;> by_cases hy : y < 0 <;> simp [hx, hy]
  · rw [show (x.natAbs : Int) = -x by omega, show (y.natAbs : Int) = -y by omega, Int.neg_mul_neg]
  · rw [show (x.natAbs : Int) = -x by omega, show (y.natAbs : Int) = y by omega, Int.neg_mul, Int.neg_neg]
  · rw [show (x.natAbs : Int) = x by omega, show (y.natAbs : Int) = -y by omega, Int.mul_neg, Int.neg_neg]
  · rw [show (x.natAbs : Int) = x by omega, show (y.natAbs : Int) = y by omega]
theorem carry_end {a b l : List Nat} {n c x : Nat} (ga : Dg a) (gb : Dg b) (hn : n < a.length) (hx : a.getD n 0 = x)
    (hv : val l + 65536 ^ (n + (b.length + 1)) * c = val (a.take n) * val b + 65536 ^ n * (x * val b)) : c = 0 := by
  have h1 := mul_next 65536 a b n x hx
  rw [val_vB, val_vB, val_vB] at h1
  rw [h1] at hv
  have h2 : val (a.take (n + 1)) < 65536 ^ (n + 1) := by
    have := val_lt (ga.take (n + 1))
    rwa [List.length_take, Nat.min_eq_left (by omega)] at this
  have h3 := val_lt gb
  have h4 : val (a.take (n + 1)) * val b < 65536 ^ (n + 1) * 65536 ^ b.length := Nat.mul_lt_mul_of_lt_of_le h2 (Nat.le_of_lt h3) (Nat.pow_pos (by omega))
  rw [← Nat.pow_add, show n + 1 + b.length = n + (b.length + 1) by omega] at h4
  rcases Nat.eq_zero_or_pos c with h | h
  · exact h
  · have : 65536 ^ (n + (b.length + 1)) * 1 ≤ 65536 ^ (n + (b.length + 1)) * c := Nat.mul_le_mul_left _ h
    omega
def RMulRel (w : World) (A1 A2 : Option Addr) (b1 o1 b2 o2 k1 k2 d2 d3 d4 d5 : Nat) (s t : Bool) (a b : List Nat) (k : Nat) (i : Value) (wr : World) : Prop :=
  ∃ (n : Nat) (l : List Nat), n + k = a.length ∧ i = .int .i64 (n : Int) ∧ l.length = a.length + b.length + 1 ∧ Dg l ∧ val l = val (a.take n) * val b ∧
    Own w.heap.size w wr [.cells d5 (dl l), .cells d4 [.bool false, .slice none 0 0], .cells d3 [.bool t, .slice A2 b.length k2], .cells d2 [.bool s, .slice A1 a.length k1], .rd A1 b1 o1 (dl a), .rd A2 b2 o2 (dl b)]
def RMulIn (w : World) (A1 A2 : Option Addr) (b1 o1 b2 o2 k1 k2 d2 d3 d4 d5 : Nat) (s t : Bool) (a b : List Nat) (n x p : Nat) (k : Nat) (cy j : Value) (wr : World) : Prop :=
  ∃ (m c : Nat) (l : List Nat), m + k = b.length + 1 ∧ j = .int .i64 (m : Int) ∧ cy = .int .i64 (c : Int) ∧ c < 65536 ∧ l.length = a.length + b.length + 1 ∧ Dg l ∧ val l + 65536 ^ (n + m) * c = p + 65536 ^ n * (x * val (b.take m)) ∧
    Own w.heap.size w wr [.cells d5 (dl l), .cells d4 [.bool false, .slice none 0 0], .cells d3 [.bool t, .slice A2 b.length k2], .cells d2 [.bool s, .slice A1 a.length k1], .rd A1 b1 o1 (dl a), .rd A2 b2 o2 (dl b)]
set_option maxRecDepth 100000 in
set_option maxHeartbeats 4000000 in
theorem refMul_any (F : Nat → Prop) (w : World) (hF : ∀ k, F k → k < w.heap.size) (A1 A2 : Option Addr) (k1 k2 : Nat) (a b : List Nat) (x y : Int) (ha : Sl F w A1 (dl a)) (hb : Sl F w A2 (dl b)) (ga : CnI a x) (gb : CnI b y) (la : a.length ≤ 450) (lb : b.length ≤ 450)
    (ma : a.length ≤ k1) (mb : b.length ≤ k2) :
    Calls Try.prog 74 #[.agg #[.bool (decide (x < 0)), .slice A1 a.length k1], .agg #[.bool (decide (y < 0)), .slice A2 b.length k2]] w (RetN F w (x * y)) := by
  obtain ⟨b2, o2, H2, f2⟩ := (Own.start w).addSl (hb.ro (by rfl))
  obtain ⟨b1, o1, H, f1⟩ := H2.addSl (ha.ro (by rfl))
  clear ha hb H2
  have hz := sgn_mul ga gb
  have ga1 := ga.1
  have gb1 := gb.1
  obtain ⟨s, hs⟩ : ∃ s, decide (x < 0) = s := ⟨_, rfl⟩
  obtain ⟨t, ht⟩ : ∃ t, decide (y < 0) = t := ⟨_, rfl⟩
  rw [hs, ht] at hz ⊢
  rw [← hz]
  clear hs ht hz ga gb
  go_enter Try.func74, Try.ntmps74
  have tk0 : True := trivial
  have tk1 : True := trivial
  have tk2 : True := trivial
  have tk3 : True := trivial
  go_wp2_with (guard_target =~ wpList _ _ _ (_ :: _) _ _; (first | (guard_target =~ wpList _ _ _ (Oper.mk _ (.load _ _) _ _ _ _ :: _) _ _; refine BigFrame.wpList_want rfl (fun K hK => ?_); (refine o_loadC (v := ?_) (row := ?_) rfl rfl H ?_ ?_ ?_ (hK _ _ ?_); rotate_left 2; (repeat first | exact .head _ | apply List.Mem.tail); (exact rfl); (focus (intro _; simp; done))); clear hK K) | ((first | (guard_target =~ wpList _ _ _ (Oper.mk _ (.alloc _) _ _ _ _ :: _) _ _; refine BigFrame.wpList_want rfl (fun K hK => ?_); refine o_alloc (z := ?_) rfl ?_ H rfl (fun w3 b2 he H2 => hK _ _ ?_); rotate_left 1; (focus (intro _; simp; with_reducible exact rfl))) | (guard_target =~ wpList _ _ _ (Oper.mk _ (.box _ _) _ _ _ _ :: _) _ _; refine BigFrame.wpList_want rfl (fun K hK => ?_); refine o_box rfl H rfl (fun w3 b2 he H2 => hK _ _ ?_))); clear hK K he; clear H; (try clear w2); revert w3; intro w2 H; simp [Act.eval, Value.cells, setL, List.getD] at H; (first | (clear tk0; rename Nat => d2) | (clear tk1; rename Nat => d3) | (clear tk2; rename Nat => d4))) | (guard_target =~ wpList _ _ _ (Oper.mk _ (.makeSlice _ _ _) _ _ _ _ :: _) _ _; refine BigFrame.wpList_want rfl (fun K hK => ?_); refine o_make (n := a.length + b.length + 1) Try.infoInt rfl (congrArg (Value.int .i64) (by omega)) (congrArg (Value.int .i64) (by omega)) (by kernel_rfl) ?_ H rfl (fun w3 b2 he H2 => hK _ _ ?_); (focus (exact (by omega))); clear hK K he; clear H; (try clear w2); revert w3; intro w2 H; (clear tk3; rename Nat => d5))); simp only [Act.put, List.setIfInBounds_toArray, List.set_cons_succ, List.set_cons_zero])
  rw [made_dl] at H
  go_loopg [6] a.length (RMulRel w A1 A2 b1 o1 b2 o2 k1 k2 d2 d3 d4 d5 s t a b)
  case atStart =>
    refine ⟨0, List.replicate (a.length + b.length + 1) 0, Nat.zero_add _, rfl, by simp, Dg.zeros _, ?_, H⟩
    rw [← val_vB, vB_zeros]; simp [val]
  case round =>
    clear H
    obtain ⟨n, l, hk, rfl, hl, gl, hv, H⟩ := hrel
    have HL := Lib.hid hl
    have HV := Lib.hid hv
    clear hl hv
    by_cases h0 : n < a.length
    · go_wp2_with (guard_target =~ wpList _ _ _ (_ :: _) _ _; (guard_target =~ wpList _ _ _ (Oper.mk _ (.load _ _) _ _ _ _ :: _) _ _; refine BigFrame.wpList_want rfl (fun K hK => ?_); (refine o_loadC (v := ?_) (row := ?_) rfl rfl H ?_ ?_ ?_ (hK _ _ ?_); rotate_left 2; (repeat first | exact .head _ | apply List.Mem.tail); (exact rfl); (focus (intro _; simp; done))); clear hK K); simp only [Act.put, List.setIfInBounds_toArray, List.set_cons_succ, List.set_cons_zero])
      go_loopg [7, 8] (b.length + 1) (RMulIn w A1 A2 b1 o1 b2 o2 k1 k2 d2 d3 d4 d5 s t a b n (a.getD n 0) (val (a.take n) * val b))
      case atStart =>
        exact ⟨0, 0, l, Nat.zero_add _, rfl, rfl, by omega, HL.out, gl, by rw [HV.out]; simp [val], H⟩
      case round =>
        clear H
        obtain ⟨m, c, l, hk2, rfl, rfl, hc, hl, gl, hv, H⟩ := hrel
        replace HL := Lib.hid hl
        have HI := Lib.hid hv
        clear hl hv HV
        obtain rfl := H.rdAddr m4 (by rw [dl_length]; omega)
        obtain ⟨x, hx, bx, tx⟩ := dig_at h0 ga1
        replace tx := tx (some ⟨b1, o1, none⟩) b1 o1
        by_cases h1 : m < b.length
        · obtain rfl := H.rdAddr m5 (by rw [dl_length]; omega)
          obtain ⟨y, hy, by_, ty⟩ := dig_at h1 gb1
          replace ty := ty (some ⟨b2, o2, none⟩) b2 o2
          have hnm : n + m < l.length := by rw [HL.out]; omega
          have hnl : n + m < (dl l).length := by rw [dl_length]; exact hnm
          have hnm2 : n + m < a.length + b.length + 1 := by omega
          obtain ⟨o, ho⟩ : ∃ o, l.getD (n + m) 0 = o := ⟨_, rfl⟩
          have bo : o < 65536 := by rw [← ho]; exact gl.get _
          have ldO : (Res.cells d5 (dl l)).at d5 (n + m) [.int .i64 (o : Int)] := at_cells (by rw [dl_get hnm, ho])
          have HO := Lib.hid ho
          obtain ⟨q, hq⟩ : ∃ q, x * y = q := ⟨_, rfl⟩
          have bq : q ≤ 4294836225 := by rw [← hq]; exact Nat.mul_le_mul (show x ≤ 65535 by omega) (show y ≤ 65535 by omega)
          have hq2 : (x : Int) * (y : Int) = (q : Int) := by rw [← hq]; simp
          have HQ := Lib.hid hq
          clear ho hq hnm
          go_wp2_with (first
            | (guard_target =~ Code.wp _ (Code.region 11 _ true) _ _ _; refine region_tree0 11 (G := True) (.q 0 (.q 1 (.q 2 (.q 3 (.q 4 (.q 5 (.q 6 (.q 7 (.q 8 (.q 9 (.q 10 (.q 11 (.q 12 (.q 13 .nil)))))))))))))) (by kernel_rfl) (by intro c a d v w h; cases d <;> exact h) (by kernel_rfl) H ⟨trivial⟩ (fun _ w3 H2 => ?_); (clear H; (try clear w2); revert w3; intro w2 H))
            | (guard_target =~ wpList _ _ _ (_ :: _) _ _; (first | (guard_target =~ wpList _ _ _ (Oper.mk _ (.load _ _) _ _ _ _ :: _) _ _; refine BigFrame.wpList_want rfl (fun K hK => ?_); (first | (refine o_load (v := ?_) (r := ?_) rfl rfl H ?_ ?_ ?_ (hK _ _ ?_); rotate_left 2; (with_reducible assumption); (repeat first | exact .head _ | apply List.Mem.tail); (focus (intro _; simp; done))) | (refine o_loadC (v := ?_) (row := ?_) rfl rfl H ?_ ?_ ?_ (hK _ _ ?_); rotate_left 2; (repeat first | exact .head _ | apply List.Mem.tail); (exact rfl); (focus (intro _; simp; done)))); clear hK K) | (guard_target =~ wpList _ _ _ (Oper.mk _ (.store _ _ _) _ _ _ _ :: _) _ _; refine BigFrame.wpList_want rfl (fun K hK => ?_); refine o_store (l' := ?_) (row := ?_) rfl rfl H rfl ?_ ?_ ?_ ?_ (fun w3 H2 => hK _ _ ?_); rotate_left 2; (exact r0); (focus (intro _; simp [Act.eval, Value.cells]; done)); (focus ((try simp [Act.eval, Value.cells]); omega)); (exact rfl); clear hK K; clear H; (try clear w2); revert w3; intro w2 H; simp [Act.eval, Value.cells, setL, List.getD] at H)); simp only [Act.put, List.setIfInBounds_toArray, List.set_cons_succ, List.set_cons_zero])
            | (guard_target =~ wpTree _ _ _ _ _ _ _; first | (guard_target =~ wpTree _ _ _ (Tr.q _ _) _ _ _; first | (refine tree_quiet ⟨_, H, by repeat first | exact .here | apply Suf.there⟩ rfl rfl rfl (fun K hK => ?_); simp only [List.getElem_toArray, List.getElem_cons_succ, List.getElem_cons_zero]; first | (guard_target =~ Oper.quiet _ (Oper.mk _ (.load _ _) _ _ _ _) _ _ _; (first | (refine q_load (v := ?_) (r := ?_) rfl rfl ?_ ?_ ?_ (hK _ ?_); rotate_left 2; (with_reducible assumption); (repeat first | exact .head _ | apply List.Mem.tail); (focus (intro _; simp; done))) | (refine q_loadC (v := ?_) (row := ?_) rfl rfl ?_ ?_ ?_ (hK _ ?_); rotate_left 2; (repeat first | exact .head _ | apply List.Mem.tail); (exact rfl); (focus (intro _; simp; done)))); clear hK K; simp only [Act.put, List.setIfInBounds_toArray, List.set_cons_succ, List.set_cons_zero]) | (go_big_quiet_op; (try refine ⟨_, fun _ _ => rfl, ?_⟩); refine hK _ ?_; clear hK K)) | (refine tree_skip ⟨_, H, by repeat first | exact .here | apply Suf.there⟩ rfl rfl ?_; simp only [List.getElem_toArray, List.getElem_cons_succ, List.getElem_cons_zero, Act.put, List.setIfInBounds_toArray, List.set_cons_succ, List.set_cons_zero])) | (guard_target =~ wpTree _ _ _ (Tr.both _ _) _ _ _; refine tree_both ?_ ?_) | (guard_target =~ wpTree _ _ _ (Tr.e _ _) _ _ _; first | (refine tree_one rfl rfl (fun K hK => ?_); simp only [List.getElem_toArray, List.getElem_cons_succ, List.getElem_cons_zero]; first | ((first | fail); simp only [Act.put, List.setIfInBounds_toArray, List.set_cons_succ, List.set_cons_zero]) | go_big_op) | (refine tree_one_skip ⟨_, H, by repeat first | exact .here | apply Suf.there⟩ rfl rfl ?_; simp only [List.getElem_toArray, List.getElem_cons_succ, List.getElem_cons_zero, Act.put, List.setIfInBounds_toArray, List.set_cons_succ, List.set_cons_zero])) | (guard_target =~ wpTree _ _ _ Tr.nil _ _ _; refine tree_nil ?_)))
          have e2 : ((o : Int) + (c : Int) + (q : Int)) % 65536 = (((o + c + q) % 65536 : Nat) : Int) := by omega
          rw [e2, dl_set] at H
          go_roundg (gk - 1)
          case rel =>
            have bo' : (o + c + q) / 65536 < 65536 := by omega
            have hI := HI.out
            rw [hx.out] at hI
            refine ⟨m + 1, (o + c + q) / 65536, l.set (n + m) ((o + c + q) % 65536), by omega, by congr 1, by congr 1, bo', by rw [List.length_set]; exact HL.out, gl.set _ _ (by omega), ?_, H⟩
            rw [hx.out, ← val_vB, ← val_vB (b.take _)] at *
            exact mul_round 65536 l b _ x y n m c _ _ o (by rw [HL.out]; omega) HO.out hy.out hI (by rw [HQ.out]; omega)
          case measure => omega
        · by_cases h2 : 0 < c
          · have hm : m = b.length := by
              by_cases h : m = b.length
              · exact h
              · exfalso
                obtain rfl : m = b.length + 1 := by omega
                have hI := HI.out
                rw [List.take_of_length_le (l := b) (by omega)] at hI
                have := carry_end ga1 gb1 h0 rfl hI
                omega
            have hnm : n + m < l.length := by rw [HL.out]; omega
            have hnl : n + m < (dl l).length := by rw [dl_length]; exact hnm
            have hnm2 : n + m < a.length + b.length + 1 := by omega
            obtain ⟨o, ho⟩ : ∃ o, l.getD (n + m) 0 = o := ⟨_, rfl⟩
            have bo : o < 65536 := by rw [← ho]; exact gl.get _
            have ldO : (Res.cells d5 (dl l)).at d5 (n + m) [.int .i64 (o : Int)] := at_cells (by rw [dl_get hnm, ho])
            have HO := Lib.hid ho
            have HM := Lib.hid hm
            clear ho hnm hm
            go_wp2_with (guard_target =~ wpList _ _ _ (_ :: _) _ _; (first | (guard_target =~ wpList _ _ _ (Oper.mk _ (.load _ _) _ _ _ _ :: _) _ _; refine BigFrame.wpList_want rfl (fun K hK => ?_); (first | (refine o_load (v := ?_) (r := ?_) rfl rfl H ?_ ?_ ?_ (hK _ _ ?_); rotate_left 2; (with_reducible assumption); (repeat first | exact .head _ | apply List.Mem.tail); (focus (intro _; simp; done))) | (refine o_loadC (v := ?_) (row := ?_) rfl rfl H ?_ ?_ ?_ (hK _ _ ?_); rotate_left 2; (repeat first | exact .head _ | apply List.Mem.tail); (exact rfl); (focus (intro _; simp; done)))); clear hK K) | (guard_target =~ wpList _ _ _ (Oper.mk _ (.store _ _ _) _ _ _ _ :: _) _ _; refine BigFrame.wpList_want rfl (fun K hK => ?_); refine o_store (l' := ?_) (row := ?_) rfl rfl H rfl ?_ ?_ ?_ ?_ (fun w3 H2 => hK _ _ ?_); rotate_left 2; (exact r0); (focus (intro _; simp [Act.eval, Value.cells]; done)); (focus ((try simp [Act.eval, Value.cells]); omega)); (exact rfl); clear hK K; clear H; (try clear w2); revert w3; intro w2 H; simp [Act.eval, Value.cells, setL, List.getD] at H)); simp only [Act.put, List.setIfInBounds_toArray, List.set_cons_succ, List.set_cons_zero])
            have e2 : ((o : Int) + (c : Int)) % 65536 = (((o + c) % 65536 : Nat) : Int) := by omega
            rw [e2, dl_set] at H
            go_roundg (gk - 1)
            case rel =>
              have hI := HI.out
              have hm := HM.out
              refine ⟨m + 1, (o + c) / 65536, l.set (n + m) ((o + c) % 65536), by omega, by congr 1, by congr 1, by omega, by rw [List.length_set]; exact HL.out, gl.set _ _ (by omega), ?_, H⟩
              rw [← val_vB, ← val_vB (b.take _)] at *
              exact mul_round 65536 l b _ _ 0 n m c ((o + c) % 65536) ((o + c) / 65536) o (by rw [HL.out]; omega) HO.out (getD_past h1) hI (by rw [Nat.mul_zero]; omega)
            case measure => have hm := HM.out; omega
          · obtain rfl : c = 0 := by omega
            go_wp2_with (guard_target =~ wpList _ _ _ (_ :: _) _ _; (guard_target =~ wpList _ _ _ (Oper.mk _ (.load _ _) _ _ _ _ :: _) _ _; refine BigFrame.wpList_want rfl (fun K hK => ?_); (refine o_loadC (v := ?_) (row := ?_) rfl rfl H ?_ ?_ ?_ (hK _ _ ?_); rotate_left 2; (repeat first | exact .head _ | apply List.Mem.tail); (exact rfl); (focus (intro _; simp; done))); clear hK K); simp only [Act.put, List.setIfInBounds_toArray, List.set_cons_succ, List.set_cons_zero])
            go_roundg (a.length - (n + 1))
            case rel =>
              have hI := HI.out
              rw [List.take_of_length_le (l := b) (by omega), Nat.mul_zero, Nat.add_zero] at hI
              have h1 := mul_next 65536 a b n _ rfl
              rw [val_vB, val_vB, val_vB] at h1
              rw [h1] at hI
              exact ⟨n + 1, l, by omega, by congr 1, HL.out, gl, hI, H⟩
            case measure => omega
    · obtain rfl : n = a.length := by omega
      have hv := HV.out
      rw [List.take_length] at hv
      have HQ := Lib.hid hv
      have n2 := H.notF m0 hF
      have H := H.toRd
      have HT : ∀ (F : Nat → Prop) (w : World) (hF : ∀ k, F k → k < w.heap.size) (A : Option Addr) (ha : Sl F w A (dl l)), Calls Try.prog 97 #[.agg #[.bool (!(s == t)), .slice A (a.length + b.length + 1) (a.length + b.length + 1)]] w (RetN F w (sgn (!(s == t)) (val l))) := by
        intro F w hF A ha
        have h := trim_any F w hF (!(s == t)) A (a.length + b.length + 1) l ha gl (by rw [HL.out]; omega) (by rw [HL.out]; exact Nat.le_refl _) (by unfold maxLen; omega)
        rw [HL.out] at h
        exact h
      clear hv
      go_wp2_with (first
        | (go_at_call 97; (with_reducible refine (HT (FW F _) _ (H.fw_lt rfl hF) _ (H.giveRd m0 (fun _ => n2))).mono ?_); rintro e w3 ⟨A3, k3, l3, rfl, hb, s3, g3, q2, q3⟩; replace H := H.ext hb; clear hb; obtain ⟨b4, o4, H4, f4⟩ := H.addSl s3; clear H s3; have H := H4; clear H4; dsimp only)
        | (guard_target =~ wpList _ _ _ (_ :: _) _ _; (first | (guard_target =~ wpList _ _ _ (Oper.mk _ (.load _ _) _ _ _ _ :: _) _ _; refine BigFrame.wpList_want rfl (fun K hK => ?_); (refine o_loadC (v := ?_) (row := ?_) rfl rfl H ?_ ?_ ?_ (hK _ _ ?_); rotate_left 2; (repeat first | exact .head _ | apply List.Mem.tail); (exact rfl); (focus (intro _; simp; done))); clear hK K) | (guard_target =~ wpList _ _ _ (Oper.mk _ (.store _ _ _) _ _ _ _ :: _) _ _; refine BigFrame.wpList_want rfl (fun K hK => ?_); refine o_store (l' := ?_) (row := ?_) rfl rfl H rfl ?_ ?_ ?_ ?_ (fun w3 H2 => hK _ _ ?_); rotate_left 2; (exact r2); (focus (intro _; simp [Act.eval, Value.cells]; done)); (focus (simp [Act.eval, Value.cells]; done)); (exact rfl); clear hK K; clear H; (try clear w2); revert w3; intro w2 H; simp [Act.eval, Value.cells, setL, List.getD] at H)); simp only [Act.put, List.setIfInBounds_toArray, List.set_cons_succ, List.set_cons_zero]))
      have hr := H.loadVarN (P := Try.prog) (ty := 71) m2 (by simp) (by simp)
      rw [← HQ.out]
      exact bodyPost_ret (v := .agg #[.bool (decide (sgn (!(s == t)) (val l) < 0)), .slice A3 l3.length k3]) (by simp [results, Try.results74, asAddr, hr]) rfl ⟨A3, k3, l3, rfl, H.below, (H.giveRd m0 f4).fw, g3, q2, q3⟩
end Go.Proofs.Ytmmieilogpmocaa

/-
  The walks of the document's layer 3: which number is greater.
-/
namespace Go.Proofs.Ytmmieilogpmocaa
set_option linter.unusedVariables false
set_option linter.unusedSimpArgs false
open Go.RowKit

/-- Which of two numbers is greater. -/
def cmpR (x y : Int) : Int := if x < y then -1 else if y < x then 1 else 0
set_option maxRecDepth 100000 in
set_option maxHeartbeats 4000000 in
theorem refCmp_any (F : Nat → Prop) (w : World) (hF : ∀ k, F k → k < w.heap.size) (A1 A2 : Option Addr) (c1 c2 : Nat) (a b : List Nat) (x y : Int) (ha : Sl F w A1 (dl a)) (hb : Sl F w A2 (dl b)) (ga : CnI a x) (gb : CnI b y) (la : a.length ≤ 1000) (lb : b.length ≤ 1000) :
    Calls Try.prog 73 #[.agg #[.bool (decide (x < 0)), .slice A1 a.length c1], .agg #[.bool (decide (y < 0)), .slice A2 b.length c2]] w fun e w' => e = .returned (.int .i64 (cmpR x y)) ∧ Below w.heap.size w w' := by
  obtain ⟨b2, o2, H2, f2⟩ := (Own.start w).addSl (hb.ro (by rfl))
  obtain ⟨b1, o1, H, f1⟩ := H2.addSl (ha.ro (by rfl))
  clear ha hb H2
  obtain ⟨s, hs⟩ : ∃ s, decide (x < 0) = s := ⟨_, rfl⟩
  obtain ⟨t, ht⟩ : ∃ t, decide (y < 0) = t := ⟨_, rfl⟩
  have hz : cmpR x y = if s = t then (if s = true then cmpN y.natAbs x.natAbs else cmpN x.natAbs y.natAbs) else (if s = true then -1 else 1) := by
    rw [← hs, ← ht]; unfold cmpR cmpN
    by_cases hx : x < 0 <;> by_cases hy : y < 0 <;> simp [hx, hy] <;> repeat' split <;> omega
  rw [hs, ht, hz]
  clear hz hs ht
  have H3 : ∀ (F : Nat → Prop) (w : World) (hF : ∀ k, F k → k < w.heap.size) (A1 A2 : Option Addr) (c1 c2 : Nat) (ha : Sl F w A1 (dl a)) (hb : Sl F w A2 (dl b)), Calls Try.prog 98 #[.slice A1 a.length c1, .slice A2 b.length c2] w fun e w' => e = .returned (.int .i64 (cmpN x.natAbs y.natAbs)) ∧ Below w.heap.size w w' :=
    fun F w hF A1 A2 c1 c2 ha hb => size_any F w hF A1 A2 c1 c2 a b x y ha hb ga gb la lb
  have H4 : ∀ (F : Nat → Prop) (w : World) (hF : ∀ k, F k → k < w.heap.size) (A1 A2 : Option Addr) (c1 c2 : Nat) (ha : Sl F w A1 (dl b)) (hb : Sl F w A2 (dl a)), Calls Try.prog 98 #[.slice A1 b.length c1, .slice A2 a.length c2] w fun e w' => e = .returned (.int .i64 (cmpN y.natAbs x.natAbs)) ∧ Below w.heap.size w w' :=
    fun F w hF A1 A2 c1 c2 ha hb => size_any F w hF A1 A2 c1 c2 b a y x ha hb gb ga lb la
  generalize cmpN x.natAbs y.natAbs = u at *
  generalize cmpN y.natAbs x.natAbs = v at *
  clear ga gb
  cases s <;> cases t
  · go_enter Try.func73, Try.ntmps73
    have tk0 : True := trivial
    have tk1 : True := trivial
    go_wp2_with (first
      | (go_at_call 98; (with_reducible refine (H3 (FW F _) _ (H.fw_lt rfl hF) _ _ _ _ (H.giveRd m2 f1) (H.giveRd m3 f2)).mono ?_); rintro e w3 ⟨rfl, hb⟩; replace H := H.ext hb; clear hb; dsimp only)
      | (guard_target =~ wpList _ _ _ (_ :: _) _ _; (first | (guard_target =~ wpList _ _ _ (Oper.mk _ (.load _ _) _ _ _ _ :: _) _ _; refine BigFrame.wpList_want rfl (fun K hK => ?_); (refine o_loadC (v := ?_) (row := ?_) rfl rfl H ?_ ?_ ?_ (hK _ _ ?_); rotate_left 2; (repeat first | exact .head _ | apply List.Mem.tail); (exact rfl); (focus (intro _; simp; done))); clear hK K) | ((guard_target =~ wpList _ _ _ (Oper.mk _ (.box _ _) _ _ _ _ :: _) _ _; refine BigFrame.wpList_want rfl (fun K hK => ?_); refine o_box rfl H rfl (fun w3 b2 he H2 => hK _ _ ?_)); clear hK K he; clear H; (try clear w2); revert w3; intro w2 H; simp [Act.eval, Value.cells, setL, List.getD] at H; (first | (clear tk0; rename Nat => d2) | (clear tk1; rename Nat => d3)))); simp only [Act.put, List.setIfInBounds_toArray, List.set_cons_succ, List.set_cons_zero]))
    go_ret
    exact ⟨rfl, H.below⟩
  · go_enter Try.func73, Try.ntmps73
    have tk0 : True := trivial
    have tk1 : True := trivial
    go_wp2_with (guard_target =~ wpList _ _ _ (_ :: _) _ _; (first | (guard_target =~ wpList _ _ _ (Oper.mk _ (.load _ _) _ _ _ _ :: _) _ _; refine BigFrame.wpList_want rfl (fun K hK => ?_); (refine o_loadC (v := ?_) (row := ?_) rfl rfl H ?_ ?_ ?_ (hK _ _ ?_); rotate_left 2; (repeat first | exact .head _ | apply List.Mem.tail); (exact rfl); (focus (intro _; simp; done))); clear hK K) | ((guard_target =~ wpList _ _ _ (Oper.mk _ (.box _ _) _ _ _ _ :: _) _ _; refine BigFrame.wpList_want rfl (fun K hK => ?_); refine o_box rfl H rfl (fun w3 b2 he H2 => hK _ _ ?_)); clear hK K he; clear H; (try clear w2); revert w3; intro w2 H; simp [Act.eval, Value.cells, setL, List.getD] at H; (first | (clear tk0; rename Nat => d2) | (clear tk1; rename Nat => d3)))); simp only [Act.put, List.setIfInBounds_toArray, List.set_cons_succ, List.set_cons_zero])
    go_ret
    exact ⟨rfl, H.below⟩
  · go_enter Try.func73, Try.ntmps73
    have tk0 : True := trivial
    have tk1 : True := trivial
    go_wp2_with (guard_target =~ wpList _ _ _ (_ :: _) _ _; (first | (guard_target =~ wpList _ _ _ (Oper.mk _ (.load _ _) _ _ _ _ :: _) _ _; refine BigFrame.wpList_want rfl (fun K hK => ?_); (refine o_loadC (v := ?_) (row := ?_) rfl rfl H ?_ ?_ ?_ (hK _ _ ?_); rotate_left 2; (repeat first | exact .head _ | apply List.Mem.tail); (exact rfl); (focus (intro _; simp; done))); clear hK K) | ((guard_target =~ wpList _ _ _ (Oper.mk _ (.box _ _) _ _ _ _ :: _) _ _; refine BigFrame.wpList_want rfl (fun K hK => ?_); refine o_box rfl H rfl (fun w3 b2 he H2 => hK _ _ ?_)); clear hK K he; clear H; (try clear w2); revert w3; intro w2 H; simp [Act.eval, Value.cells, setL, List.getD] at H; (first | (clear tk0; rename Nat => d2) | (clear tk1; rename Nat => d3)))); simp only [Act.put, List.setIfInBounds_toArray, List.set_cons_succ, List.set_cons_zero])
    go_ret
    exact ⟨rfl, H.below⟩
  · go_enter Try.func73, Try.ntmps73
    have tk0 : True := trivial
    have tk1 : True := trivial
    go_wp2_with (first
      | (go_at_call 98; (with_reducible refine (H4 (FW F _) _ (H.fw_lt rfl hF) _ _ _ _ (H.giveRd m3 f2) (H.giveRd m2 f1)).mono ?_); rintro e w3 ⟨rfl, hb⟩; replace H := H.ext hb; clear hb; dsimp only)
      | (guard_target =~ wpList _ _ _ (_ :: _) _ _; (first | (guard_target =~ wpList _ _ _ (Oper.mk _ (.load _ _) _ _ _ _ :: _) _ _; refine BigFrame.wpList_want rfl (fun K hK => ?_); (refine o_loadC (v := ?_) (row := ?_) rfl rfl H ?_ ?_ ?_ (hK _ _ ?_); rotate_left 2; (repeat first | exact .head _ | apply List.Mem.tail); (exact rfl); (focus (intro _; simp; done))); clear hK K) | ((guard_target =~ wpList _ _ _ (Oper.mk _ (.box _ _) _ _ _ _ :: _) _ _; refine BigFrame.wpList_want rfl (fun K hK => ?_); refine o_box rfl H rfl (fun w3 b2 he H2 => hK _ _ ?_)); clear hK K he; clear H; (try clear w2); revert w3; intro w2 H; simp [Act.eval, Value.cells, setL, List.getD] at H; (first | (clear tk0; rename Nat => d2) | (clear tk1; rename Nat => d3)))); simp only [Act.put, List.setIfInBounds_toArray, List.set_cons_succ, List.set_cons_zero]))
    go_ret
    exact ⟨rfl, H.below⟩
end Go.Proofs.Ytmmieilogpmocaa

/-
  The walks of the document's layer 4: a fraction of any numbers, do two numbers fit, how two fractions stand to each other, a sign.
-/
namespace Go.Proofs.Ytmmieilogpmocaa
set_option linter.unusedVariables false
set_option linter.unusedSimpArgs false
open Go.RowKit

theorem len_zero {l : List Nat} {z : Int} (g : CnI l z) : (z = 0 ∧ ((l.length : Int) == 0) = true) ∨ (z ≠ 0 ∧ ((l.length : Int) == 0) = false) := by
  by_cases h : z = 0
  · have := g.nil_iff.2 h
    subst this
    exact .inl ⟨h, rfl⟩
  · have : 0 < l.length := List.length_pos_iff.2 fun hl => h (g.nil_iff.1 hl)
    exact .inr ⟨h, by simp; intro hh; rw [hh] at this; simp at this⟩
theorem mkV_form (n d : Int) : ∃ p q, mkV n d = rV p q := by
  unfold mkV
  split
  · exact ⟨_, _, rfl⟩
  · exact ⟨_, _, rfl⟩
set_option maxRecDepth 100000 in
set_option maxHeartbeats 8000000 in
theorem ref4Make_any (n d : Int) (hn : R256 n) (hd : R256 d) (w : World) :
    Calls Try.prog 16 #[iV n, iV d] w fun e w' => e = .returned (.tuple #[mkV n d, .int .i64 (mkE n d)]) ∧ Below w.heap.size w w' := by
  have H := Own.start w
  have hF : ∀ k : Nat, (fun _ : Nat => False) k → k < w.heap.size := fun k h => h.elim
  have ofn := fun F w hF => refOf_any F w hF n hn
  have ofd := fun F w hF => refOf_any F w hF d hd
  have fn1 := field_num1
  by_cases h0 : d = 0
  · subst h0
    rw [show mkV n 0 = rV 0 0 by unfold mkV mkE; simp, show mkE n 0 = 4 by unfold mkE; simp]
    unfold RetN at ofd
    go_enter Try.func16, Try.ntmps16
    have tk0 : True := trivial
    have tk1 : True := trivial
    have tk2 : True := trivial
    go_wp2_with (first
      | (guard_target =~ bodyPost _ _ _ _ _ _; refine Stopped.out ?_)
      | (go_at_call 56; (with_reducible refine (ofd (FW (fun _ => False) _) _ (H.fw_lt rfl hF)).mono ?_); rintro e w3 ⟨A5, k5, l5, rfl, hb, s5, g5, q5, p5⟩; replace H := H.ext hb; clear hb; obtain ⟨b5, o5, H4, f5⟩ := H.addSl s5; clear H s5; have H := H4; clear H4; (obtain ⟨_, t1⟩ := (len_zero g5).resolve_right (fun hh => hh.1 rfl)); dsimp only; (skip))
      | (guard_target =~ wpList _ _ _ (_ :: _) _ _; (first | (guard_target =~ wpList _ _ _ (Oper.mk _ (.load _ _) _ _ _ _ :: _) _ _; refine BigFrame.wpList_want rfl (fun K hK => ?_); (refine o_loadNC (row := ?_) rfl rfl H ?_ ?_ ?_ (hK _ _ ?_); rotate_left 1; (repeat first | exact .head _ | apply List.Mem.tail); (focus (intro _; simp [cells_iV, iL_length, setL_i, setL_ii, agg_iL, cells_rV, rL_length, setL_r, setL_rr, agg_rL]; done)); (focus (intro _; simp [cells_iV, iL_length, setL_i, setL_ii, agg_iL, cells_rV, rL_length, setL_r, setL_rr, agg_rL]; done))); clear hK K) | (guard_target =~ wpList _ _ _ (Oper.mk _ (.build _ _) _ _ _ _ :: _) _ _; refine BigFrame.wpList_want rfl (fun K hK => ?_); (refine o_build (v := ?_) (ps := ?_) rfl ?_ ?_ (hK _ _ ?_); rotate_left 2; (focus (simp [Act.eval]; with_reducible exact rfl)); (focus (intro w4; with_reducible exact build_q0 w4))); clear hK K) | (guard_target =~ wpList _ _ _ (Oper.mk _ (.store _ _ _) _ _ _ _ :: _) _ _; refine BigFrame.wpList_want rfl (fun K hK => ?_); refine o_store (l' := ?_) (row := ?_) rfl rfl H rfl ?_ ?_ ?_ ?_ (fun w3 H2 => hK _ _ ?_); rotate_left 2; (exact r1); (focus (intro _; (simp [Act.eval, List.getD, cells_iV, iL_length, setL_i, setL_ii, agg_iL, cells_rV, rL_length, setL_r, setL_rr, agg_rL]; done))); (focus (simp [Act.eval, List.getD, cells_iV, iL_length, setL_i, setL_ii, agg_iL, cells_rV, rL_length, setL_r, setL_rr, agg_rL]; done)); (exact rfl); clear hK K; clear H; (try clear w2); revert w3; intro w2 H; (try simp [Act.eval, List.getD, cells_iV, iL_length, setL_i, setL_ii, agg_iL, cells_rV, rL_length, setL_r, setL_rr, agg_rL] at H); (try simp [Value.cells, setL, cells_iV, iL_length, setL_i, setL_ii, agg_iL, cells_rV, rL_length, setL_r, setL_rr, agg_rL] at H)) | ((first | (guard_target =~ wpList _ _ _ (Oper.mk _ (.alloc _) _ _ _ _ :: _) _ _; refine BigFrame.wpList_want rfl (fun K hK => ?_); refine o_alloc (z := ?_) rfl ?_ H rfl (fun w3 b2 he H2 => hK _ _ ?_); rotate_left 1; (focus (intro _; simp; with_reducible exact rfl))) | (guard_target =~ wpList _ _ _ (Oper.mk _ (.box _ _) _ _ _ _ :: _) _ _; refine BigFrame.wpList_want rfl (fun K hK => ?_); refine o_box rfl H rfl (fun w3 b2 he H2 => hK _ _ ?_))); clear hK K he; clear H; (try clear w2); revert w3; intro w2 H; (try simp [Act.eval, List.getD, cells_iV, iL_length, setL_i, setL_ii, agg_iL, cells_rV, rL_length, setL_r, setL_rr, agg_rL] at H); (try simp [Value.cells, setL, cells_iV, iL_length, setL_i, setL_ii, agg_iL, cells_rV, rL_length, setL_r, setL_rr, agg_rL] at H); (first | (clear tk0; rename Nat => c1) | (clear tk1; rename Nat => c2) | (clear tk2; rename Nat => c3)))); simp only [Act.put, List.setIfInBounds_toArray, List.set_cons_succ, List.set_cons_zero, cells_iV, iL_length, setL_i, setL_ii, agg_iL, cells_rV, rL_length, setL_r, setL_rr, agg_rL]))
    have hr := H.loadVarN (P := Try.prog) (ty := 31) m1 (by simp) (by simp [rL_length])
    exact ⟨bodyPost_ret (v := .tuple #[rV 0 0, .int .i64 4]) (by simp [results, Try.results16, asAddr, hr, agg_rL]) rfl ⟨rfl, H.below⟩⟩
  · have hM := fun F w hF A1 A2 c1 c2 a b => refMade_any F w hF A1 A2 c1 c2 a b n d hn hd h0
    obtain ⟨p, q, e⟩ := mkV_form n d
    rw [e] at hM ⊢
    generalize mkE n d = u at *
    clear e
    go_enter Try.func16, Try.ntmps16
    have tk0 : True := trivial
    have tk1 : True := trivial
    have tk2 : True := trivial
    go_wp2_with (first
      | (guard_target =~ bodyPost _ _ _ _ _ _; refine Stopped.out ?_)
      | (guard_target =~ Code.wp _ (Code.region 3 _ true) _ _ _; replace H := H.front1; refine region_tree 3 1 (G := True) (.q 0 (.q 2 (.e 1 (.e 3 (.e 4 (.q 5 (.q 6 (.e 7 (.q 8 .nil))))))))) (by kernel_rfl) (by intro c a d v w h; cases d <;> exact h) (by kernel_rfl) H ⟨trivial⟩ (fun _ w3 H2 => ?_); (clear H; (try clear w2); revert w3; intro w2 H); simp only [List.drop_succ_cons, List.drop_zero])
      | (go_at_call 56; (with_reducible refine (ofd (FW (fun _ => False) _) _ (H.fw_lt rfl hF)).mono ?_); rintro e w3 ⟨A5, k5, l5, rfl, hb, s5, g5, q5, p5⟩; replace H := H.ext hb; clear hb; obtain ⟨b5, o5, H4, f5⟩ := H.addSl s5; clear H s5; have H := H4; clear H4; (obtain ⟨_, t1⟩ := (len_zero g5).resolve_left (fun hh => h0 hh.1)); dsimp only; (first | (refine hK _ _ ⟨_, H, by repeat first | exact .here | apply Suf.there⟩ ?_; clear hK K; (try simp only [Act.put, List.setIfInBounds_toArray, List.set_cons_succ, List.set_cons_zero, cells_iV, iL_length, setL_i, setL_ii, agg_iL, cells_rV, rL_length, setL_r, setL_rr, agg_rL])) | skip))
      | (go_at_call 56; (with_reducible refine (ofn (FW (fun _ => False) _) _ (H.fw_lt rfl hF)).mono ?_); rintro e w3 ⟨A6, k6, l6, rfl, hb, s6, g6, q6, p6⟩; replace H := H.ext hb; clear hb; obtain ⟨b6, o6, H4, f6⟩ := H.addSl s6; clear H s6; have H := H4; clear H4; dsimp only; (refine hK _ _ ⟨_, H, by repeat first | exact .here | apply Suf.there⟩ ?_; clear hK K; (try simp only [Act.put, List.setIfInBounds_toArray, List.set_cons_succ, List.set_cons_zero, cells_iV, iL_length, setL_i, setL_ii, agg_iL, cells_rV, rL_length, setL_r, setL_rr, agg_rL])))
      | (go_at_call 57; (with_reducible refine (hM (FW (fun _ => False) _) _ (H.fw_lt rfl hF) _ _ _ _ l6 l5 (by exact H.giveRd m1 f6) (by exact H.giveRd m0 f5) g6 g5 q6 q5 p6 p5).mono ?_); rintro e w3 ⟨rfl, hb⟩; replace H := H.ext hb; clear hb; dsimp only; (refine hK _ _ ⟨_, H, by repeat first | exact .here | apply Suf.there⟩ ?_; clear hK K; (try simp only [Act.put, List.setIfInBounds_toArray, List.set_cons_succ, List.set_cons_zero, cells_iV, iL_length, setL_i, setL_ii, agg_iL, cells_rV, rL_length, setL_r, setL_rr, agg_rL])))
      | (guard_target =~ wpList _ _ _ (_ :: _) _ _; (first | (guard_target =~ wpList _ _ _ (Oper.mk _ (.load _ _) _ _ _ _ :: _) _ _; refine BigFrame.wpList_want rfl (fun K hK => ?_); (refine o_loadNC (row := ?_) rfl rfl H ?_ ?_ ?_ (hK _ _ ?_); rotate_left 1; (repeat first | exact .head _ | apply List.Mem.tail); (focus (intro _; simp [cells_iV, iL_length, setL_i, setL_ii, agg_iL, cells_rV, rL_length, setL_r, setL_rr, agg_rL]; done)); (focus (intro _; simp [cells_iV, iL_length, setL_i, setL_ii, agg_iL, cells_rV, rL_length, setL_r, setL_rr, agg_rL]; done))); clear hK K) | ((first | (guard_target =~ wpList _ _ _ (Oper.mk _ (.alloc _) _ _ _ _ :: _) _ _; refine BigFrame.wpList_want rfl (fun K hK => ?_); refine o_alloc (z := ?_) rfl ?_ H rfl (fun w3 b2 he H2 => hK _ _ ?_); rotate_left 1; (focus (intro _; simp; with_reducible exact rfl))) | (guard_target =~ wpList _ _ _ (Oper.mk _ (.box _ _) _ _ _ _ :: _) _ _; refine BigFrame.wpList_want rfl (fun K hK => ?_); refine o_box rfl H rfl (fun w3 b2 he H2 => hK _ _ ?_))); clear hK K he; clear H; (try clear w2); revert w3; intro w2 H; (try simp [Act.eval, List.getD, cells_iV, iL_length, setL_i, setL_ii, agg_iL, cells_rV, rL_length, setL_r, setL_rr, agg_rL] at H); (try simp [Value.cells, setL, cells_iV, iL_length, setL_i, setL_ii, agg_iL, cells_rV, rL_length, setL_r, setL_rr, agg_rL] at H); (first | (clear tk0; rename Nat => c1) | (clear tk1; rename Nat => c2) | (clear tk2; rename Nat => c3)))); simp only [Act.put, List.setIfInBounds_toArray, List.set_cons_succ, List.set_cons_zero, cells_iV, iL_length, setL_i, setL_ii, agg_iL, cells_rV, rL_length, setL_r, setL_rr, agg_rL])
      | (guard_target =~ wpTree _ _ _ _ _ _ _; first | (guard_target =~ wpTree _ _ _ (Tr.q _ _) _ _ _; first | (refine tree_quiet ⟨_, H, by repeat first | exact .here | apply Suf.there⟩ rfl rfl rfl (fun K hK => ?_); simp only [List.getElem_toArray, List.getElem_cons_succ, List.getElem_cons_zero]; first | (guard_target =~ Oper.quiet _ (Oper.mk _ (.load _ _) _ _ _ _) _ _ _; (refine q_loadNC (row := ?_) rfl rfl ?_ ?_ ?_ (hK _ ?_); rotate_left 1; (repeat first | exact .head _ | apply List.Mem.tail); (focus (intro _; simp [cells_iV, iL_length, setL_i, setL_ii, agg_iL, cells_rV, rL_length, setL_r, setL_rr, agg_rL]; done)); (focus (intro _; simp [cells_iV, iL_length, setL_i, setL_ii, agg_iL, cells_rV, rL_length, setL_r, setL_rr, agg_rL]; done))); clear hK K; simp only [Act.put, List.setIfInBounds_toArray, List.set_cons_succ, List.set_cons_zero, cells_iV, iL_length, setL_i, setL_ii, agg_iL, cells_rV, rL_length, setL_r, setL_rr, agg_rL]) | (go_big_quiet_op; (try refine ⟨_, fun _ _ => rfl, ?_⟩); refine hK _ ?_; clear hK K)) | (refine tree_skip ⟨_, H, by repeat first | exact .here | apply Suf.there⟩ rfl rfl ?_; simp only [List.getElem_toArray, List.getElem_cons_succ, List.getElem_cons_zero, Act.put, List.setIfInBounds_toArray, List.set_cons_succ, List.set_cons_zero])) | (guard_target =~ wpTree _ _ _ (Tr.both _ _) _ _ _; refine tree_both ?_ ?_) | (guard_target =~ wpTree _ _ _ (Tr.e _ _) _ _ _; first | (refine tree_one rfl rfl (fun K hK => ?_); simp only [List.getElem_toArray, List.getElem_cons_succ, List.getElem_cons_zero]; first | ((guard_target =~ Oper.wp _ (Oper.mk _ (.store _ _ _) _ _ _ _) _ _ _ _; refine o_store (l' := ?_) (row := ?_) rfl rfl H rfl ?_ ?_ ?_ ?_ (fun w3 H2 => hK _ _ ⟨_, H2, ?_⟩ ?_); rotate_left 2; (exact r2); (focus (intro _; (simp [Act.eval, List.getD, cells_iV, iL_length, setL_i, setL_ii, agg_iL, cells_rV, rL_length, setL_r, setL_rr, agg_rL]; done))); (focus (simp [Act.eval, List.getD, cells_iV, iL_length, setL_i, setL_ii, agg_iL, cells_rV, rL_length, setL_r, setL_rr, agg_rL]; done)); (exact rfl); (guard_target =~ Suf _ _; repeat first | exact .here | apply Suf.there); clear hK K; clear H; (try clear w2); revert w3; intro w2 H; (try simp [Act.eval, List.getD, cells_iV, iL_length, setL_i, setL_ii, agg_iL, cells_rV, rL_length, setL_r, setL_rr, agg_rL] at H); (try simp [Value.cells, setL, cells_iV, iL_length, setL_i, setL_ii, agg_iL, cells_rV, rL_length, setL_r, setL_rr, agg_rL] at H)); simp only [Act.put, List.setIfInBounds_toArray, List.set_cons_succ, List.set_cons_zero, cells_iV, iL_length, setL_i, setL_ii, agg_iL, cells_rV, rL_length, setL_r, setL_rr, agg_rL]) | (go_big_op; (skip))) | (refine tree_one_skip ⟨_, H, by repeat first | exact .here | apply Suf.there⟩ rfl rfl ?_; simp only [List.getElem_toArray, List.getElem_cons_succ, List.getElem_cons_zero, Act.put, List.setIfInBounds_toArray, List.set_cons_succ, List.set_cons_zero])) | (guard_target =~ wpTree _ _ _ Tr.nil _ _ _; refine tree_nil ?_)))
    have hr := H.loadVarN (P := Try.prog) (ty := 31) m2 (by simp) (by simp [rL_length])
    exact ⟨bodyPost_ret (v := .tuple #[rV p q, .int .i64 u]) (by simp [results, Try.results16, asAddr, hr, agg_rL]) rfl ⟨rfl, H.below⟩⟩

/-- Two numbers side by side, as cells. -/
def numL (x : Int) (A : Option Addr) (l : List Nat) (c : Nat) : List Value := [.bool (decide (x < 0)), .slice A l.length c]
def FitRel (w : World) (b0 o0 b1 o1 b2 o2 : Nat) (A1 A2 : Option Addr) (r0 : List Value) (a b : List Nat) (v1 v2 : Bool) (k : Nat) (i : Value) (wr : World) : Prop :=
  ∃ j L, j + k = 2 ∧ i = .int .i64 ((j : Nat) : Int) ∧ (0 < j → v1 = true) ∧ (1 < j → v2 = true) ∧ Own w.heap.size w wr (L ++ [.rd (some ⟨b0, o0, none⟩) b0 o0 r0, .rd A1 b1 o1 (dl a), .rd A2 b2 o2 (dl b)])
set_option maxRecDepth 100000 in
set_option maxHeartbeats 8000000 in
theorem ref4Fit_any (F : Nat → Prop) (w : World) (hF : ∀ k, F k → k < w.heap.size) (S A1 A2 : Option Addr) (c1 c2 : Nat) (a b : List Nat) (x y : Int) (hs : Sl F w S [.bool (decide (x < 0)), .slice A1 a.length c1, .bool (decide (y < 0)), .slice A2 b.length c2])
    (ha : Sl F w A1 (dl a)) (hb : Sl F w A2 (dl b)) (ga : CnI a x) (gb : CnI b y) (la : a.length ≤ 1000) (lb : b.length ≤ 1000) (ma : a.length ≤ c1) (ma2 : c1 ≤ maxLen) (mb : b.length ≤ c2) (mb2 : c2 ≤ maxLen) :
    Calls Try.prog 80 #[.slice S 2 2] w fun e w' => e = .returned (.bool (decide (R256 x) && decide (R256 y))) ∧ Below w.heap.size w w' := by
  obtain ⟨b2, o2, H2, f2⟩ := (Own.start w).addSl (hb.ro (by rfl))
  obtain ⟨b1, o1, H1, f1⟩ := H2.addSl (ha.ro (by rfl))
  obtain ⟨b0, o0, H, f0⟩ := H1.addSl (hs.ro (by rfl))
  clear ha hb hs H2 H1
  have hS := H.rdAddr m0 (by simp)
  subst hS
  have h1 := fun F w hF ha => refWords_any F w hF A1 c1 a x ha ga la ma ma2
  have h2 := fun F w hF hb => refWords_any F w hF A2 c2 b y hb gb lb mb mb2
  generalize decide (R256 x) = v1 at *
  generalize decide (R256 y) = v2 at *
  have t0 : (Res.rd (some ⟨b0, o0, none⟩) b0 o0 [.bool (decide (x < 0)), .slice A1 a.length c1, .bool (decide (y < 0)), .slice A2 b.length c2]).at b0 (o0 + 0) [.bool (decide (x < 0)), .slice A1 a.length c1] := at_rdN rfl
  have t2 : (Res.rd (some ⟨b0, o0, none⟩) b0 o0 [.bool (decide (x < 0)), .slice A1 a.length c1, .bool (decide (y < 0)), .slice A2 b.length c2]).at b0 (o0 + 2) [.bool (decide (y < 0)), .slice A2 b.length c2] := at_rdN rfl
  simp only [Nat.add_zero] at t0
  clear ga gb la ma ma2 lb mb mb2
  generalize decide (x < 0) = sx at *
  generalize decide (y < 0) = sy at *
  generalize fitZ x = zx at *
  generalize fitZ y = zy at *
  go_enter Try.func80, Try.ntmps80
  go_wp2_with (first | fail)
  go_loopg [3] 2 (FitRel w b0 o0 b1 o1 b2 o2 A1 A2 [.bool sx, .slice A1 a.length c1, .bool sy, .slice A2 b.length c2] a b v1 v2)
  case atStart => exact ⟨0, [], rfl, rfl, by simp, by simp, H⟩
  case round =>
    clear H
    obtain ⟨j, L, hk, rfl, e1, e2, H⟩ := hrel
    match j, hk with
    | 0, hk =>
      obtain rfl : gk = 2 := by omega
      clear hk e1 e2
      replace H := H.sub (List.sublist_append_right L _)
      cases v1 with
      | false =>
        have tk0 : True := trivial
        go_wp2_with (first
          | (go_at_call 71; (with_reducible refine (h1 (FW F _) _ (H.fw_lt rfl hF) (by exact H.giveRd m1 f1)).mono ?_); rintro e w3 ⟨rfl, hb⟩; replace H := H.ext hb; clear hb; dsimp only)
          | (guard_target =~ wpList _ _ _ (_ :: _) _ _; (first | (guard_target =~ wpList _ _ _ (Oper.mk _ (.load _ _) _ _ _ _ :: _) _ _; refine BigFrame.wpList_want rfl (fun K hK => ?_); (refine o_loadN (cs := ?_) (r := ?_) rfl rfl H ?_ ?_ ?_ ?_ (hK _ _ ?_); rotate_left 2; (with_reducible assumption); (repeat first | exact .head _ | apply List.Mem.tail); (focus (intro _; simp [cells_iV, iL_length, setL_i, setL_ii, agg_iL]; done)); (focus (intro _; simp [cells_iV, iL_length, setL_i, setL_ii, agg_iL]; done))); clear hK K) | (guard_target =~ wpList _ _ _ (Oper.mk _ (.store _ _ _) _ _ _ _ :: _) _ _; refine BigFrame.wpList_want rfl (fun K hK => ?_); refine o_store (l' := ?_) (row := ?_) rfl rfl H rfl ?_ ?_ ?_ ?_ (fun w3 H2 => hK _ _ ?_); rotate_left 2; (exact r0); (focus (intro _; (simp [Act.eval, List.getD, cells_iV, iL_length, setL_i, setL_ii, agg_iL]; done))); (focus (simp [Act.eval, List.getD, cells_iV, iL_length, setL_i, setL_ii, agg_iL]; done)); (exact rfl); clear hK K; clear H; (try clear w2); revert w3; intro w2 H; (try simp [Act.eval, List.getD, cells_iV, iL_length, setL_i, setL_ii, agg_iL] at H); (try simp [Value.cells, setL, cells_iV, iL_length, setL_i, setL_ii, agg_iL] at H)) | ((guard_target =~ wpList _ _ _ (Oper.mk _ (.alloc _) _ _ _ _ :: _) _ _; refine BigFrame.wpList_want rfl (fun K hK => ?_); refine o_alloc (z := ?_) rfl ?_ H rfl (fun w3 b2 he H2 => hK _ _ ?_); rotate_left 1; (focus (intro _; simp; with_reducible exact rfl))); clear hK K he; clear H; (try clear w2); revert w3; intro w2 H; (try simp [Act.eval, List.getD, cells_iV, iL_length, setL_i, setL_ii, agg_iL] at H); (try simp [Value.cells, setL, cells_iV, iL_length, setL_i, setL_ii, agg_iL] at H); (clear tk0; rename Nat => c1))); simp only [Act.put, List.setIfInBounds_toArray, List.set_cons_succ, List.set_cons_zero, cells_iV, iL_length, setL_i, setL_ii, agg_iL]))
        go_ret
        exact ⟨by simp, H.below⟩
      | true =>
        have tk0 : True := trivial
        go_wp2_with (first
          | (go_at_call 71; (with_reducible refine (h1 (FW F _) _ (H.fw_lt rfl hF) (by exact H.giveRd m1 f1)).mono ?_); rintro e w3 ⟨rfl, hb⟩; replace H := H.ext hb; clear hb; dsimp only)
          | (guard_target =~ wpList _ _ _ (_ :: _) _ _; (first | (guard_target =~ wpList _ _ _ (Oper.mk _ (.load _ _) _ _ _ _ :: _) _ _; refine BigFrame.wpList_want rfl (fun K hK => ?_); (refine o_loadN (cs := ?_) (r := ?_) rfl rfl H ?_ ?_ ?_ ?_ (hK _ _ ?_); rotate_left 2; (with_reducible assumption); (repeat first | exact .head _ | apply List.Mem.tail); (focus (intro _; simp [cells_iV, iL_length, setL_i, setL_ii, agg_iL]; done)); (focus (intro _; simp [cells_iV, iL_length, setL_i, setL_ii, agg_iL]; done))); clear hK K) | (guard_target =~ wpList _ _ _ (Oper.mk _ (.store _ _ _) _ _ _ _ :: _) _ _; refine BigFrame.wpList_want rfl (fun K hK => ?_); refine o_store (l' := ?_) (row := ?_) rfl rfl H rfl ?_ ?_ ?_ ?_ (fun w3 H2 => hK _ _ ?_); rotate_left 2; (exact r0); (focus (intro _; (simp [Act.eval, List.getD, cells_iV, iL_length, setL_i, setL_ii, agg_iL]; done))); (focus (simp [Act.eval, List.getD, cells_iV, iL_length, setL_i, setL_ii, agg_iL]; done)); (exact rfl); clear hK K; clear H; (try clear w2); revert w3; intro w2 H; (try simp [Act.eval, List.getD, cells_iV, iL_length, setL_i, setL_ii, agg_iL] at H); (try simp [Value.cells, setL, cells_iV, iL_length, setL_i, setL_ii, agg_iL] at H)) | ((guard_target =~ wpList _ _ _ (Oper.mk _ (.alloc _) _ _ _ _ :: _) _ _; refine BigFrame.wpList_want rfl (fun K hK => ?_); refine o_alloc (z := ?_) rfl ?_ H rfl (fun w3 b2 he H2 => hK _ _ ?_); rotate_left 1; (focus (intro _; simp; with_reducible exact rfl))); clear hK K he; clear H; (try clear w2); revert w3; intro w2 H; (try simp [Act.eval, List.getD, cells_iV, iL_length, setL_i, setL_ii, agg_iL] at H); (try simp [Value.cells, setL, cells_iV, iL_length, setL_i, setL_ii, agg_iL] at H); (clear tk0; rename Nat => c1))); simp only [Act.put, List.setIfInBounds_toArray, List.set_cons_succ, List.set_cons_zero, cells_iV, iL_length, setL_i, setL_ii, agg_iL]))
        go_roundg 1
        case rel => exact ⟨1, [_], rfl, rfl, by simp, by simp, H⟩
        case measure => omega
    | 1, hk =>
      obtain rfl : gk = 1 := by omega
      obtain rfl := e1 (by omega)
      clear hk e1 e2
      replace H := H.sub (List.sublist_append_right L _)
      cases v2 with
      | false =>
        have tk0 : True := trivial
        go_wp2_with (first
          | (go_at_call 71; (with_reducible refine (h2 (FW F _) _ (H.fw_lt rfl hF) (by exact H.giveRd m2 f2)).mono ?_); rintro e w3 ⟨rfl, hb⟩; replace H := H.ext hb; clear hb; dsimp only)
          | (guard_target =~ wpList _ _ _ (_ :: _) _ _; (first | (guard_target =~ wpList _ _ _ (Oper.mk _ (.load _ _) _ _ _ _ :: _) _ _; refine BigFrame.wpList_want rfl (fun K hK => ?_); (refine o_loadN (cs := ?_) (r := ?_) rfl rfl H ?_ ?_ ?_ ?_ (hK _ _ ?_); rotate_left 2; (with_reducible assumption); (repeat first | exact .head _ | apply List.Mem.tail); (focus (intro _; simp [cells_iV, iL_length, setL_i, setL_ii, agg_iL]; done)); (focus (intro _; simp [cells_iV, iL_length, setL_i, setL_ii, agg_iL]; done))); clear hK K) | (guard_target =~ wpList _ _ _ (Oper.mk _ (.store _ _ _) _ _ _ _ :: _) _ _; refine BigFrame.wpList_want rfl (fun K hK => ?_); refine o_store (l' := ?_) (row := ?_) rfl rfl H rfl ?_ ?_ ?_ ?_ (fun w3 H2 => hK _ _ ?_); rotate_left 2; (exact r0); (focus (intro _; (simp [Act.eval, List.getD, cells_iV, iL_length, setL_i, setL_ii, agg_iL]; done))); (focus (simp [Act.eval, List.getD, cells_iV, iL_length, setL_i, setL_ii, agg_iL]; done)); (exact rfl); clear hK K; clear H; (try clear w2); revert w3; intro w2 H; (try simp [Act.eval, List.getD, cells_iV, iL_length, setL_i, setL_ii, agg_iL] at H); (try simp [Value.cells, setL, cells_iV, iL_length, setL_i, setL_ii, agg_iL] at H)) | ((guard_target =~ wpList _ _ _ (Oper.mk _ (.alloc _) _ _ _ _ :: _) _ _; refine BigFrame.wpList_want rfl (fun K hK => ?_); refine o_alloc (z := ?_) rfl ?_ H rfl (fun w3 b2 he H2 => hK _ _ ?_); rotate_left 1; (focus (intro _; simp; with_reducible exact rfl))); clear hK K he; clear H; (try clear w2); revert w3; intro w2 H; (try simp [Act.eval, List.getD, cells_iV, iL_length, setL_i, setL_ii, agg_iL] at H); (try simp [Value.cells, setL, cells_iV, iL_length, setL_i, setL_ii, agg_iL] at H); (clear tk0; rename Nat => c1))); simp only [Act.put, List.setIfInBounds_toArray, List.set_cons_succ, List.set_cons_zero, cells_iV, iL_length, setL_i, setL_ii, agg_iL]))
        go_ret
        exact ⟨by simp, H.below⟩
      | true =>
        have tk0 : True := trivial
        go_wp2_with (first
          | (go_at_call 71; (with_reducible refine (h2 (FW F _) _ (H.fw_lt rfl hF) (by exact H.giveRd m2 f2)).mono ?_); rintro e w3 ⟨rfl, hb⟩; replace H := H.ext hb; clear hb; dsimp only)
          | (guard_target =~ wpList _ _ _ (_ :: _) _ _; (first | (guard_target =~ wpList _ _ _ (Oper.mk _ (.load _ _) _ _ _ _ :: _) _ _; refine BigFrame.wpList_want rfl (fun K hK => ?_); (refine o_loadN (cs := ?_) (r := ?_) rfl rfl H ?_ ?_ ?_ ?_ (hK _ _ ?_); rotate_left 2; (with_reducible assumption); (repeat first | exact .head _ | apply List.Mem.tail); (focus (intro _; simp [cells_iV, iL_length, setL_i, setL_ii, agg_iL]; done)); (focus (intro _; simp [cells_iV, iL_length, setL_i, setL_ii, agg_iL]; done))); clear hK K) | (guard_target =~ wpList _ _ _ (Oper.mk _ (.store _ _ _) _ _ _ _ :: _) _ _; refine BigFrame.wpList_want rfl (fun K hK => ?_); refine o_store (l' := ?_) (row := ?_) rfl rfl H rfl ?_ ?_ ?_ ?_ (fun w3 H2 => hK _ _ ?_); rotate_left 2; (exact r0); (focus (intro _; (simp [Act.eval, List.getD, cells_iV, iL_length, setL_i, setL_ii, agg_iL]; done))); (focus (simp [Act.eval, List.getD, cells_iV, iL_length, setL_i, setL_ii, agg_iL]; done)); (exact rfl); clear hK K; clear H; (try clear w2); revert w3; intro w2 H; (try simp [Act.eval, List.getD, cells_iV, iL_length, setL_i, setL_ii, agg_iL] at H); (try simp [Value.cells, setL, cells_iV, iL_length, setL_i, setL_ii, agg_iL] at H)) | ((guard_target =~ wpList _ _ _ (Oper.mk _ (.alloc _) _ _ _ _ :: _) _ _; refine BigFrame.wpList_want rfl (fun K hK => ?_); refine o_alloc (z := ?_) rfl ?_ H rfl (fun w3 b2 he H2 => hK _ _ ?_); rotate_left 1; (focus (intro _; simp; with_reducible exact rfl))); clear hK K he; clear H; (try clear w2); revert w3; intro w2 H; (try simp [Act.eval, List.getD, cells_iV, iL_length, setL_i, setL_ii, agg_iL] at H); (try simp [Value.cells, setL, cells_iV, iL_length, setL_i, setL_ii, agg_iL] at H); (clear tk0; rename Nat => c1))); simp only [Act.put, List.setIfInBounds_toArray, List.set_cons_succ, List.set_cons_zero, cells_iV, iL_length, setL_i, setL_ii, agg_iL]))
        go_roundg 0
        case rel => exact ⟨2, [_], rfl, rfl, by simp, by simp, H⟩
        case measure => omega
    | j + 2, hk =>
      obtain ⟨rfl, rfl⟩ : j = 0 ∧ gk = 0 := by omega
      obtain rfl := e1 (by omega)
      obtain rfl := e2 (by omega)
      clear hk e1 e2
      go_wp2_with (first | fail)
      go_ret
      exact ⟨by simp, H.below⟩
set_option maxRecDepth 100000 in
set_option maxHeartbeats 8000000 in
theorem ref4Cmp_any (n d m e : Int) (hn : R256 n) (hd : R256 d) (hm : R256 m) (he : R256 e) (w : World) :
    Calls Try.prog 40 #[rV n d, rV m e] w fun e' w' => e' = .returned (.int .i64 (cmpZ (n * e) (m * d))) ∧ Below w.heap.size w w' := by
  have H := Own.start w
  have hF : ∀ k : Nat, (fun _ : Nat => False) k → k < w.heap.size := fun k h => h.elim
  have on := fun F w hF => refOf_any F w hF n hn
  have od := fun F w hF => refOf_any F w hF d hd
  have om := fun F w hF => refOf_any F w hF m hm
  have oe := fun F w hF => refOf_any F w hF e he
  have u1 := fun F w hF A1 A2 k1 k2 a b ha hb ga gb ma mb => refMul_any F w hF A1 A2 k1 k2 a b n e ha hb ga gb (fit450 hn ga) (fit450 he gb) ma mb
  have u2 := fun F w hF A1 A2 k1 k2 a b ha hb ga gb ma mb => refMul_any F w hF A1 A2 k1 k2 a b m d ha hb ga gb (fit450 hm ga) (fit450 hd gb) ma mb
  have hC := fun F w hF A1 A2 k1 k2 a b ha hb ga gb => refCmp_any F w hF A1 A2 k1 k2 a b (n * e) (m * d) ha hb ga gb (fit1000 (wide_mul hn he) ga) (fit1000 (wide_mul hm hd) gb)
  rw [show cmpR (n * e) (m * d) = cmpZ (n * e) (m * d) from rfl] at hC
  generalize cmpZ (n * e) (m * d) = z at *
  go_enter Try.func40, Try.ntmps40
  have tk0 : True := trivial
  have tk1 : True := trivial
  go_wp2_with (first
    | (guard_target =~ Code.wp _ (Code.region 1 _ true) _ _ _; refine region_tree0 1 (G := True) (.q 0 (.q 1 (.q 3 (.q 4 (.q 7 (.q 8 (.q 10 (.q 11 (.e 2 (.e 5 (.e 6 (.e 9 (.e 12 (.e 13 (.e 14 (.q 15 .nil)))))))))))))))) (by kernel_rfl) (by intro c a d v w h; cases d <;> exact h) (by kernel_rfl) H ⟨trivial⟩ (fun _ w3 H2 => ?_); (clear H; (try clear w2); revert w3; intro w2 H))
    | (go_at_call 56; (with_reducible refine (on (FW (fun _ => False) _) _ (H.fw_lt rfl hF)).mono ?_); rintro e w3 ⟨A5, k5, l5, rfl, hb, s5, g5, q5, p5⟩; replace H := H.ext hb; clear hb; obtain ⟨b5, o5, H4, f5⟩ := H.addSl s5; clear H s5; have H := H4; clear H4; dsimp only; (refine hK _ _ ⟨_, H, by repeat first | exact .here | apply Suf.there⟩ ?_; clear hK K; (try simp only [Act.put, List.setIfInBounds_toArray, List.set_cons_succ, List.set_cons_zero, cells_iV, iL_length, setL_i, setL_ii, agg_iL, cells_rV, rL_length, setL_r, setL_rr, agg_rL])))
    | (go_at_call 56; (with_reducible refine (oe (FW (fun _ => False) _) _ (H.fw_lt rfl hF)).mono ?_); rintro e w3 ⟨A6, k6, l6, rfl, hb, s6, g6, q6, p6⟩; replace H := H.ext hb; clear hb; obtain ⟨b6, o6, H4, f6⟩ := H.addSl s6; clear H s6; have H := H4; clear H4; dsimp only; (refine hK _ _ ⟨_, H, by repeat first | exact .here | apply Suf.there⟩ ?_; clear hK K; (try simp only [Act.put, List.setIfInBounds_toArray, List.set_cons_succ, List.set_cons_zero, cells_iV, iL_length, setL_i, setL_ii, agg_iL, cells_rV, rL_length, setL_r, setL_rr, agg_rL])))
    | (go_at_call 56; (with_reducible refine (om (FW (fun _ => False) _) _ (H.fw_lt rfl hF)).mono ?_); rintro e w3 ⟨A7, k7, l7, rfl, hb, s7, g7, q7, p7⟩; replace H := H.ext hb; clear hb; obtain ⟨b7, o7, H4, f7⟩ := H.addSl s7; clear H s7; have H := H4; clear H4; dsimp only; (refine hK _ _ ⟨_, H, by repeat first | exact .here | apply Suf.there⟩ ?_; clear hK K; (try simp only [Act.put, List.setIfInBounds_toArray, List.set_cons_succ, List.set_cons_zero, cells_iV, iL_length, setL_i, setL_ii, agg_iL, cells_rV, rL_length, setL_r, setL_rr, agg_rL])))
    | (go_at_call 56; (with_reducible refine (od (FW (fun _ => False) _) _ (H.fw_lt rfl hF)).mono ?_); rintro e w3 ⟨A8, k8, l8, rfl, hb, s8, g8, q8, p8⟩; replace H := H.ext hb; clear hb; obtain ⟨b8, o8, H4, f8⟩ := H.addSl s8; clear H s8; have H := H4; clear H4; dsimp only; (refine hK _ _ ⟨_, H, by repeat first | exact .here | apply Suf.there⟩ ?_; clear hK K; (try simp only [Act.put, List.setIfInBounds_toArray, List.set_cons_succ, List.set_cons_zero, cells_iV, iL_length, setL_i, setL_ii, agg_iL, cells_rV, rL_length, setL_r, setL_rr, agg_rL])))
    | (go_at_call 74; (with_reducible refine (u1 (FW (fun _ => False) _) _ (H.fw_lt rfl hF) _ _ _ _ l5 l6 (by first | exact H.giveRd m1 f5 | exact H.giveRd m4 f5) (by first | exact H.giveRd m0 f6 | exact H.giveRd m3 f6) g5 g6 q5 q6).mono ?_); rintro e w3 ⟨A9, k9, l9, rfl, hb, s9, g9, q9, p9⟩; replace H := H.ext hb; clear hb; obtain ⟨b9, o9, H4, f9⟩ := H.addSl s9; clear H s9; have H := H4; clear H4; dsimp only; (refine hK _ _ ⟨_, H, by repeat first | exact .here | apply Suf.there⟩ ?_; clear hK K; (try simp only [Act.put, List.setIfInBounds_toArray, List.set_cons_succ, List.set_cons_zero, cells_iV, iL_length, setL_i, setL_ii, agg_iL, cells_rV, rL_length, setL_r, setL_rr, agg_rL])))
    | (go_at_call 74; (with_reducible refine (u2 (FW (fun _ => False) _) _ (H.fw_lt rfl hF) _ _ _ _ l7 l8 (by exact H.giveRd m1 f7) (by exact H.giveRd m0 f8) g7 g8 q7 q8).mono ?_); rintro e w3 ⟨A10, k10, l10, rfl, hb, s10, g10, q10, p10⟩; replace H := H.ext hb; clear hb; obtain ⟨b10, o10, H4, f10⟩ := H.addSl s10; clear H s10; have H := H4; clear H4; dsimp only; (refine hK _ _ ⟨_, H, by repeat first | exact .here | apply Suf.there⟩ ?_; clear hK K; (try simp only [Act.put, List.setIfInBounds_toArray, List.set_cons_succ, List.set_cons_zero, cells_iV, iL_length, setL_i, setL_ii, agg_iL, cells_rV, rL_length, setL_r, setL_rr, agg_rL])))
    | (go_at_call 73; (with_reducible refine (hC (FW (fun _ => False) _) _ (H.fw_lt rfl hF) _ _ _ _ l9 l10 (by exact H.giveRd m3 f9) (by exact H.giveRd m0 f10) g9 g10).mono ?_); rintro e w3 ⟨rfl, hb⟩; replace H := H.ext hb; clear hb; dsimp only; (refine hK _ _ ⟨_, H, by repeat first | exact .here | apply Suf.there⟩ ?_; clear hK K; (try simp only [Act.put, List.setIfInBounds_toArray, List.set_cons_succ, List.set_cons_zero, cells_iV, iL_length, setL_i, setL_ii, agg_iL, cells_rV, rL_length, setL_r, setL_rr, agg_rL])))
    | (guard_target =~ wpList _ _ _ (_ :: _) _ _; ((guard_target =~ wpList _ _ _ (Oper.mk _ (.box _ _) _ _ _ _ :: _) _ _; refine BigFrame.wpList_want rfl (fun K hK => ?_); refine o_box rfl H rfl (fun w3 b2 he H2 => hK _ _ ?_)); clear hK K he; clear H; (try clear w2); revert w3; intro w2 H; (try simp [Act.eval, List.getD, cells_iV, iL_length, setL_i, setL_ii, agg_iL, cells_rV, rL_length, setL_r, setL_rr, agg_rL] at H); (try simp [Value.cells, setL, cells_iV, iL_length, setL_i, setL_ii, agg_iL, cells_rV, rL_length, setL_r, setL_rr, agg_rL] at H); (first | (clear tk0; rename Nat => c1) | (clear tk1; rename Nat => c2))); simp only [Act.put, List.setIfInBounds_toArray, List.set_cons_succ, List.set_cons_zero, cells_iV, iL_length, setL_i, setL_ii, agg_iL, cells_rV, rL_length, setL_r, setL_rr, agg_rL])
    | (guard_target =~ wpTree _ _ _ _ _ _ _; first | (guard_target =~ wpTree _ _ _ (Tr.q _ _) _ _ _; first | (refine tree_quiet ⟨_, H, by repeat first | exact .here | apply Suf.there⟩ rfl rfl rfl (fun K hK => ?_); simp only [List.getElem_toArray, List.getElem_cons_succ, List.getElem_cons_zero]; first | (guard_target =~ Oper.quiet _ (Oper.mk _ (.load _ _) _ _ _ _) _ _ _; (first | (refine q_loadNum (n := ?_) (d := ?_) rfl rfl ?_ ?_ ?_ (hK _ ?_); rotate_left 2; (repeat first | exact .head _ | apply List.Mem.tail); (focus (intro _; simp [cells_iV, iL_length, setL_i, setL_ii, agg_iL, cells_rV, rL_length, setL_r, setL_rr, agg_rL]; done)); (focus (intro _; simp [cells_iV, iL_length, setL_i, setL_ii, agg_iL, cells_rV, rL_length, setL_r, setL_rr, agg_rL]; done))) | (refine q_loadDen (n := ?_) (d := ?_) rfl rfl ?_ ?_ ?_ (hK _ ?_); rotate_left 2; (repeat first | exact .head _ | apply List.Mem.tail); (focus (intro _; simp [cells_iV, iL_length, setL_i, setL_ii, agg_iL, cells_rV, rL_length, setL_r, setL_rr, agg_rL]; done)); (focus (intro _; simp [cells_iV, iL_length, setL_i, setL_ii, agg_iL, cells_rV, rL_length, setL_r, setL_rr, agg_rL]; done)))); clear hK K; simp only [Act.put, List.setIfInBounds_toArray, List.set_cons_succ, List.set_cons_zero, cells_iV, iL_length, setL_i, setL_ii, agg_iL, cells_rV, rL_length, setL_r, setL_rr, agg_rL]) | (go_big_quiet_op; (try refine ⟨_, fun _ _ => rfl, ?_⟩); refine hK _ ?_; clear hK K)) | (refine tree_skip ⟨_, H, by repeat first | exact .here | apply Suf.there⟩ rfl rfl ?_; simp only [List.getElem_toArray, List.getElem_cons_succ, List.getElem_cons_zero, Act.put, List.setIfInBounds_toArray, List.set_cons_succ, List.set_cons_zero])) | (guard_target =~ wpTree _ _ _ (Tr.both _ _) _ _ _; refine tree_both ?_ ?_) | (guard_target =~ wpTree _ _ _ (Tr.e _ _) _ _ _; first | (refine tree_one rfl rfl (fun K hK => ?_); simp only [List.getElem_toArray, List.getElem_cons_succ, List.getElem_cons_zero]; first | ((first | fail); simp only [Act.put, List.setIfInBounds_toArray, List.set_cons_succ, List.set_cons_zero, cells_iV, iL_length, setL_i, setL_ii, agg_iL, cells_rV, rL_length, setL_r, setL_rr, agg_rL]) | (go_big_op; (skip))) | (refine tree_one_skip ⟨_, H, by repeat first | exact .here | apply Suf.there⟩ rfl rfl ?_; simp only [List.getElem_toArray, List.getElem_cons_succ, List.getElem_cons_zero, Act.put, List.setIfInBounds_toArray, List.set_cons_succ, List.set_cons_zero])) | (guard_target =~ wpTree _ _ _ Tr.nil _ _ _; refine tree_nil ?_)))
  go_ret
  exact ⟨rfl, H.below⟩
set_option maxRecDepth 100000 in
set_option maxHeartbeats 8000000 in
theorem ref4Sign_any (n d : Int) (hn : R256 n) (w : World) :
    Calls Try.prog 37 #[rV n d] w fun e' w' => e' = .returned (.int .i64 (signZ n)) ∧ Below w.heap.size w w' := by
  have H := Own.start w
  have hF : ∀ k : Nat, (fun _ : Nat => False) k → k < w.heap.size := fun k h => h.elim
  have on := fun F w hF => refOf_any F w hF n hn
  unfold RetN at on
  rcases Int.lt_trichotomy n 0 with h | h | h
  · rw [show signZ n = -1 by unfold signZ; rw [if_pos h]]
    rw [show decide (n < 0) = true by simpa using h] at on
    go_enter Try.func37, Try.ntmps37
    have tk0 : True := trivial
    have tk1 : True := trivial
    go_wp2_with (first
      | (go_at_call 56; (with_reducible refine (on (FW (fun _ => False) _) _ (H.fw_lt rfl hF)).mono ?_); rintro e w3 ⟨A5, k5, l5, rfl, hb, s5, g5, q5, p5⟩; replace H := H.ext hb; clear hb; obtain ⟨b5, o5, H4, f5⟩ := H.addSl s5; clear H s5; have H := H4; clear H4; dsimp only)
      | (guard_target =~ wpList _ _ _ (_ :: _) _ _; (first | (guard_target =~ wpList _ _ _ (Oper.mk _ (.load _ _) _ _ _ _ :: _) _ _; refine BigFrame.wpList_want rfl (fun K hK => ?_); (first | (refine o_loadNum (n := ?_) (d := ?_) rfl rfl H ?_ ?_ ?_ (hK _ _ ?_); rotate_left 2; (repeat first | exact .head _ | apply List.Mem.tail); (focus (intro _; simp [cells_rV, rL_length, setL_r, setL_rr, agg_rL]; done)); (focus (intro _; simp [cells_rV, rL_length, setL_r, setL_rr, agg_rL]; done))) | (refine o_loadC (v := ?_) (row := ?_) rfl rfl H ?_ ?_ ?_ (hK _ _ ?_); rotate_left 2; (repeat first | exact .head _ | apply List.Mem.tail); (exact rfl); (focus (intro _; simp [cells_rV, rL_length, setL_r, setL_rr, agg_rL]; done)))); clear hK K) | (guard_target =~ wpList _ _ _ (Oper.mk _ (.store _ _ _) _ _ _ _ :: _) _ _; refine BigFrame.wpList_want rfl (fun K hK => ?_); refine o_store (l' := ?_) (row := ?_) rfl rfl H rfl ?_ ?_ ?_ ?_ (fun w3 H2 => hK _ _ ?_); rotate_left 2; (exact r0); (focus (intro _; (simp [Act.eval, Value.cells, List.getD, cells_rV, rL_length, setL_r, setL_rr, agg_rL]; done))); (focus (simp [Act.eval, Value.cells, List.getD, cells_rV, rL_length, setL_r, setL_rr, agg_rL]; done)); (exact rfl); clear hK K; clear H; (try clear w2); revert w3; intro w2 H; (try simp [Act.eval, List.getD, cells_rV, rL_length, setL_r, setL_rr, agg_rL] at H); (try simp [Value.cells, setL, cells_rV, rL_length, setL_r, setL_rr, agg_rL] at H)) | ((first | (guard_target =~ wpList _ _ _ (Oper.mk _ (.alloc _) _ _ _ _ :: _) _ _; refine BigFrame.wpList_want rfl (fun K hK => ?_); refine o_alloc (z := ?_) rfl ?_ H rfl (fun w3 b2 he H2 => hK _ _ ?_); rotate_left 1; (focus (intro _; simp; with_reducible exact rfl))) | (guard_target =~ wpList _ _ _ (Oper.mk _ (.box _ _) _ _ _ _ :: _) _ _; refine BigFrame.wpList_want rfl (fun K hK => ?_); refine o_box rfl H rfl (fun w3 b2 he H2 => hK _ _ ?_))); clear hK K he; clear H; (try clear w2); revert w3; intro w2 H; (try simp [Act.eval, List.getD, cells_rV, rL_length, setL_r, setL_rr, agg_rL] at H); (try simp [Value.cells, setL, cells_rV, rL_length, setL_r, setL_rr, agg_rL] at H); (first | (clear tk0; rename Nat => c1) | (clear tk1; rename Nat => c2)))); simp only [Act.put, List.setIfInBounds_toArray, List.set_cons_succ, List.set_cons_zero, cells_rV, rL_length, setL_r, setL_rr, agg_rL]))
    go_ret
    exact ⟨rfl, H.below⟩
  · subst h
    rw [show signZ 0 = 0 from rfl]
    go_enter Try.func37, Try.ntmps37
    have tk0 : True := trivial
    have tk1 : True := trivial
    go_wp2_with (first
      | (go_at_call 56; (with_reducible refine (on (FW (fun _ => False) _) _ (H.fw_lt rfl hF)).mono ?_); rintro e w3 ⟨A5, k5, l5, rfl, hb, s5, g5, q5, p5⟩; replace H := H.ext hb; clear hb; obtain ⟨b5, o5, H4, f5⟩ := H.addSl s5; clear H s5; have H := H4; clear H4; (obtain ⟨_, t1⟩ := (len_zero g5).resolve_right (fun hh => hh.1 rfl)); dsimp only)
      | (guard_target =~ wpList _ _ _ (_ :: _) _ _; (first | (guard_target =~ wpList _ _ _ (Oper.mk _ (.load _ _) _ _ _ _ :: _) _ _; refine BigFrame.wpList_want rfl (fun K hK => ?_); (first | (refine o_loadNum (n := ?_) (d := ?_) rfl rfl H ?_ ?_ ?_ (hK _ _ ?_); rotate_left 2; (repeat first | exact .head _ | apply List.Mem.tail); (focus (intro _; simp [cells_rV, rL_length, setL_r, setL_rr, agg_rL]; done)); (focus (intro _; simp [cells_rV, rL_length, setL_r, setL_rr, agg_rL]; done))) | (refine o_loadC (v := ?_) (row := ?_) rfl rfl H ?_ ?_ ?_ (hK _ _ ?_); rotate_left 2; (repeat first | exact .head _ | apply List.Mem.tail); (exact rfl); (focus (intro _; simp [cells_rV, rL_length, setL_r, setL_rr, agg_rL]; done)))); clear hK K) | (guard_target =~ wpList _ _ _ (Oper.mk _ (.store _ _ _) _ _ _ _ :: _) _ _; refine BigFrame.wpList_want rfl (fun K hK => ?_); refine o_store (l' := ?_) (row := ?_) rfl rfl H rfl ?_ ?_ ?_ ?_ (fun w3 H2 => hK _ _ ?_); rotate_left 2; (exact r0); (focus (intro _; (simp [Act.eval, Value.cells, List.getD, cells_rV, rL_length, setL_r, setL_rr, agg_rL]; done))); (focus (simp [Act.eval, Value.cells, List.getD, cells_rV, rL_length, setL_r, setL_rr, agg_rL]; done)); (exact rfl); clear hK K; clear H; (try clear w2); revert w3; intro w2 H; (try simp [Act.eval, List.getD, cells_rV, rL_length, setL_r, setL_rr, agg_rL] at H); (try simp [Value.cells, setL, cells_rV, rL_length, setL_r, setL_rr, agg_rL] at H)) | ((first | (guard_target =~ wpList _ _ _ (Oper.mk _ (.alloc _) _ _ _ _ :: _) _ _; refine BigFrame.wpList_want rfl (fun K hK => ?_); refine o_alloc (z := ?_) rfl ?_ H rfl (fun w3 b2 he H2 => hK _ _ ?_); rotate_left 1; (focus (intro _; simp; with_reducible exact rfl))) | (guard_target =~ wpList _ _ _ (Oper.mk _ (.box _ _) _ _ _ _ :: _) _ _; refine BigFrame.wpList_want rfl (fun K hK => ?_); refine o_box rfl H rfl (fun w3 b2 he H2 => hK _ _ ?_))); clear hK K he; clear H; (try clear w2); revert w3; intro w2 H; (try simp [Act.eval, List.getD, cells_rV, rL_length, setL_r, setL_rr, agg_rL] at H); (try simp [Value.cells, setL, cells_rV, rL_length, setL_r, setL_rr, agg_rL] at H); (first | (clear tk0; rename Nat => c1) | (clear tk1; rename Nat => c2)))); simp only [Act.put, List.setIfInBounds_toArray, List.set_cons_succ, List.set_cons_zero, cells_rV, rL_length, setL_r, setL_rr, agg_rL]))
    go_ret
    exact ⟨rfl, H.below⟩
  · have h0 : n ≠ 0 := by omega
    rw [show signZ n = 1 by unfold signZ; rw [if_neg (by omega), if_neg h0]]
    rw [show decide (n < 0) = false by simp; omega] at on
    go_enter Try.func37, Try.ntmps37
    have tk0 : True := trivial
    have tk1 : True := trivial
    go_wp2_with (first
      | (go_at_call 56; (with_reducible refine (on (FW (fun _ => False) _) _ (H.fw_lt rfl hF)).mono ?_); rintro e w3 ⟨A5, k5, l5, rfl, hb, s5, g5, q5, p5⟩; replace H := H.ext hb; clear hb; obtain ⟨b5, o5, H4, f5⟩ := H.addSl s5; clear H s5; have H := H4; clear H4; (obtain ⟨_, t1⟩ := (len_zero g5).resolve_left (fun hh => h0 hh.1)); dsimp only)
      | (guard_target =~ wpList _ _ _ (_ :: _) _ _; (first | (guard_target =~ wpList _ _ _ (Oper.mk _ (.load _ _) _ _ _ _ :: _) _ _; refine BigFrame.wpList_want rfl (fun K hK => ?_); (first | (refine o_loadNum (n := ?_) (d := ?_) rfl rfl H ?_ ?_ ?_ (hK _ _ ?_); rotate_left 2; (repeat first | exact .head _ | apply List.Mem.tail); (focus (intro _; simp [cells_rV, rL_length, setL_r, setL_rr, agg_rL]; done)); (focus (intro _; simp [cells_rV, rL_length, setL_r, setL_rr, agg_rL]; done))) | (refine o_loadC (v := ?_) (row := ?_) rfl rfl H ?_ ?_ ?_ (hK _ _ ?_); rotate_left 2; (repeat first | exact .head _ | apply List.Mem.tail); (exact rfl); (focus (intro _; simp [cells_rV, rL_length, setL_r, setL_rr, agg_rL]; done)))); clear hK K) | (guard_target =~ wpList _ _ _ (Oper.mk _ (.store _ _ _) _ _ _ _ :: _) _ _; refine BigFrame.wpList_want rfl (fun K hK => ?_); refine o_store (l' := ?_) (row := ?_) rfl rfl H rfl ?_ ?_ ?_ ?_ (fun w3 H2 => hK _ _ ?_); rotate_left 2; (exact r0); (focus (intro _; (simp [Act.eval, Value.cells, List.getD, cells_rV, rL_length, setL_r, setL_rr, agg_rL]; done))); (focus (simp [Act.eval, Value.cells, List.getD, cells_rV, rL_length, setL_r, setL_rr, agg_rL]; done)); (exact rfl); clear hK K; clear H; (try clear w2); revert w3; intro w2 H; (try simp [Act.eval, List.getD, cells_rV, rL_length, setL_r, setL_rr, agg_rL] at H); (try simp [Value.cells, setL, cells_rV, rL_length, setL_r, setL_rr, agg_rL] at H)) | ((first | (guard_target =~ wpList _ _ _ (Oper.mk _ (.alloc _) _ _ _ _ :: _) _ _; refine BigFrame.wpList_want rfl (fun K hK => ?_); refine o_alloc (z := ?_) rfl ?_ H rfl (fun w3 b2 he H2 => hK _ _ ?_); rotate_left 1; (focus (intro _; simp; with_reducible exact rfl))) | (guard_target =~ wpList _ _ _ (Oper.mk _ (.box _ _) _ _ _ _ :: _) _ _; refine BigFrame.wpList_want rfl (fun K hK => ?_); refine o_box rfl H rfl (fun w3 b2 he H2 => hK _ _ ?_))); clear hK K he; clear H; (try clear w2); revert w3; intro w2 H; (try simp [Act.eval, List.getD, cells_rV, rL_length, setL_r, setL_rr, agg_rL] at H); (try simp [Value.cells, setL, cells_rV, rL_length, setL_r, setL_rr, agg_rL] at H); (first | (clear tk0; rename Nat => c1) | (clear tk1; rename Nat => c2)))); simp only [Act.put, List.setIfInBounds_toArray, List.set_cons_succ, List.set_cons_zero, cells_rV, rL_length, setL_r, setL_rr, agg_rL]))
    go_ret
    exact ⟨rfl, H.below⟩
end Go.Proofs.Ytmmieilogpmocaa

/-
  The statements of layer 4: a fraction of any two numbers.
-/
namespace Go.Proofs.Ytmmieilogpmocaa
set_option linter.unusedVariables false
set_option linter.unusedSimpArgs false
open Go.RowKit

theorem mkV_rng (n d : Int) : ∃ p q, mkV n d = rV p q ∧ R256 p ∧ R256 q ∧ (mkE n d = 0 → rightB p q = true) := by
  by_cases h : mkE n d = 0
  · have h0 : d ≠ 0 := fun e => by subst e; unfold mkE at h; simp at h
    have hf : R256 (mkN n d) ∧ R256 (mkD n d) := by
      unfold mkE at h
      rw [if_neg h0] at h
      by_cases hh : R256 (gcdZ n d) ∧ R256 (mkN n d) ∧ R256 (mkD n d)
      · exact hh.2
      · rw [if_neg hh] at h; omega
    exact ⟨mkN n d, mkD n d, by unfold mkV; rw [if_pos h], hf.1, hf.2, fun _ => mk_right h0⟩
  · exact ⟨0, 0, by unfold mkV; rw [if_neg h], r256_0, r256_0, fun e => absurd e h⟩
theorem madeV_rng (n d e : Int) : ∃ p q, madeV n d e = rV p q ∧ R256 p ∧ R256 q := by
  unfold madeV
  split
  · obtain ⟨p, q, h1, h2, h3, _⟩ := mkV_rng n d
    exact ⟨p, q, h1, h2, h3⟩
  · exact ⟨0, 0, rfl, r256_0, r256_0⟩
theorem sumV_rng (n d m e z : Int) : ∃ p q, sumV n d m e z = rV p q ∧ R256 p ∧ R256 q := by
  unfold sumV
  split
  · exact madeV_rng _ _ _
  · exact ⟨0, 0, rfl, r256_0, r256_0⟩
theorem mulV_rng (n d m e : Int) : ∃ p q, mulV n d m e = rV p q ∧ R256 p ∧ R256 q := by
  unfold mulV
  split
  · exact madeV_rng _ _ _
  · exact ⟨0, 0, rfl, r256_0, r256_0⟩
theorem divV_rng (n d m e : Int) : ∃ p q, divV n d m e = rV p q ∧ R256 p ∧ R256 q := by
  unfold divV
  split
  · split
    · exact ⟨0, 0, rfl, r256_0, r256_0⟩
    · exact madeV_rng _ _ _
  · exact ⟨0, 0, rfl, r256_0, r256_0⟩
set_option maxRecDepth 200000 in
set_option maxHeartbeats 16000000 in
theorem plain4_any (n d : Int) (w : World) : Calls Try.prog 18 #[rV n d] w fun e w' => e = .returned (rV n d) ∧ Below w.heap.size w w' := by
  have H := Own.start w
  go_enter Try.func18, Try.ntmps18
  have tk0 : True := trivial
  have tk1 : True := trivial
  go_wp2_with (guard_target =~ wpList _ _ _ (_ :: _) _ _; (first | (guard_target =~ wpList _ _ _ (Oper.mk _ (.load _ _) _ _ _ _ :: _) _ _; refine BigFrame.wpList_want rfl (fun K hK => ?_); (first | (refine o_loadNum (n := ?_) (d := ?_) rfl rfl H ?_ ?_ ?_ (hK _ _ ?_); rotate_left 2; (repeat first | exact .head _ | apply List.Mem.tail); (focus (intro _; simp [cells_iV, iL_length, setL_i, setL_ii, agg_iL, cells_rV, rL_length, setL_r, setL_rr, agg_rL]; done)); (focus (intro _; simp [cells_iV, iL_length, setL_i, setL_ii, agg_iL, cells_rV, rL_length, setL_r, setL_rr, agg_rL]; done))) | (refine o_loadDen (n := ?_) (d := ?_) rfl rfl H ?_ ?_ ?_ (hK _ _ ?_); rotate_left 2; (repeat first | exact .head _ | apply List.Mem.tail); (focus (intro _; simp [cells_iV, iL_length, setL_i, setL_ii, agg_iL, cells_rV, rL_length, setL_r, setL_rr, agg_rL]; done)); (focus (intro _; simp [cells_iV, iL_length, setL_i, setL_ii, agg_iL, cells_rV, rL_length, setL_r, setL_rr, agg_rL]; done)))); clear hK K) | (guard_target =~ wpList _ _ _ (Oper.mk _ (.build _ _) _ _ _ _ :: _) _ _; refine BigFrame.wpList_want rfl (fun K hK => ?_); (refine o_build (v := ?_) (ps := ?_) rfl ?_ ?_ (hK _ _ ?_); rotate_left 2; (focus (simp [Act.eval]; with_reducible exact rfl)); (focus (intro w4; with_reducible exact build_q _ _ w4))); clear hK K) | (guard_target =~ wpList _ _ _ (Oper.mk _ (.store _ _ _) _ _ _ _ :: _) _ _; refine BigFrame.wpList_want rfl (fun K hK => ?_); refine o_store (l' := ?_) (row := ?_) rfl rfl H rfl ?_ ?_ ?_ ?_ (fun w3 H2 => hK _ _ ?_); rotate_left 2; (exact r0); (focus (intro _; (simp [Act.eval, List.getD, cells_iV, iL_length, setL_i, setL_ii, agg_iL, cells_rV, rL_length, setL_r, setL_rr, agg_rL]; done))); (focus (simp [Act.eval, List.getD, cells_iV, iL_length, setL_i, setL_ii, agg_iL, cells_rV, rL_length, setL_r, setL_rr, agg_rL]; done)); (exact rfl); clear hK K; clear H; (try clear w2); revert w3; intro w2 H; (try simp [Act.eval, List.getD, cells_iV, iL_length, setL_i, setL_ii, agg_iL, cells_rV, rL_length, setL_r, setL_rr, agg_rL] at H); (try simp [Value.cells, setL, cells_iV, iL_length, setL_i, setL_ii, agg_iL, cells_rV, rL_length, setL_r, setL_rr, agg_rL] at H)) | ((first | (guard_target =~ wpList _ _ _ (Oper.mk _ (.alloc _) _ _ _ _ :: _) _ _; refine BigFrame.wpList_want rfl (fun K hK => ?_); refine o_alloc (z := ?_) rfl ?_ H rfl (fun w3 b2 he H2 => hK _ _ ?_); rotate_left 1; (focus (intro _; simp; with_reducible exact rfl))) | (guard_target =~ wpList _ _ _ (Oper.mk _ (.box _ _) _ _ _ _ :: _) _ _; refine BigFrame.wpList_want rfl (fun K hK => ?_); refine o_box rfl H rfl (fun w3 b2 he H2 => hK _ _ ?_))); clear hK K he; clear H; (try clear w2); revert w3; intro w2 H; (try simp [Act.eval, List.getD, cells_iV, iL_length, setL_i, setL_ii, agg_iL, cells_rV, rL_length, setL_r, setL_rr, agg_rL] at H); (try simp [Value.cells, setL, cells_iV, iL_length, setL_i, setL_ii, agg_iL, cells_rV, rL_length, setL_r, setL_rr, agg_rL] at H); (first | (clear tk0; rename Nat => c1) | (clear tk1; rename Nat => c2)))); simp only [Act.put, List.setIfInBounds_toArray, List.set_cons_succ, List.set_cons_zero, cells_iV, iL_length, setL_i, setL_ii, agg_iL, cells_rV, rL_length, setL_r, setL_rr, agg_rL])
  have hr := H.loadVarN (P := Try.prog) (ty := 31) m0 (by simp) (by simp [rL_length])
  exact bodyPost_ret (v := rV n d) (by simp [results, Try.results18, asAddr, hr, agg_rL]) rfl ⟨rfl, H.below⟩
set_option maxRecDepth 200000 in
set_option maxHeartbeats 16000000 in
theorem law_RatioMakes (n d : Int) (w : World) (hn : R256 n) (hd : R256 d) :
    Calls Try.prog 3 #[iV n, iV d] w fun e' w' => e' = .returned (.bool true) ∧ Below w.heap.size w w' := by
  have H := Own.start w
  have hM := fun w => Make_any n d hn hd w
  have hN := fun w => ref4Make_any n d hn hd w
  obtain ⟨p, q, hv, rp, rq, hr⟩ := mkV_rng n d
  rw [hv] at hM hN
  have hE := eq_r rat2_ref p q p q rp rq rp rq
  rw [show (decide (p = p) && decide (q = q)) = true by simp] at hE
  have g1 : ∀ op x y w (n d m e : Int), (eqGuard op 31 x y (rV n d) (rV m e)).run Try.prog w = .ok () w := fun op x y w n d m e => by
    have h : Try.prog.eqGuardType Try.prog.depth 31 = false := by kernel_rfl
    unfold rV
    cases op <;> simp [eqGuard, h]
  by_cases hu : mkE n d = 0
  · have hR := fun w => Right_any p q rp rq w
    rw [hr hu] at hR
    rw [hu] at hM hN
    clear hv hr hu
    go_enter Try.func3, Try.ntmps3
    have tk0 : True := trivial
    have tk1 : True := trivial
    have tk2 : True := trivial
    have tk3 : True := trivial
    have tk4 : True := trivial
    have tk5 : True := trivial
    have tk6 : True := trivial
    have tk7 : True := trivial
    go_wp2_with (first
      | (guard_target =~ Code.wp _ (Code.region 3 _ true) _ _ _; refine region_treeC0 3 (G := True) (.q 0 (.q 1 (.q 2 (.q 3 (.q 4 (.q 5 (.q 6 (.q 7 (.q 8 (.q 9 (.q 10 (.q 11 (.q 12 (.q 13 (.q 14 (.q 15 (.q 16 (.q 17 (.q 18 (.q 19 (.q 20 .nil))))))))))))))))))))) (by kernel_rfl) (by intro c a d v w h; cases d <;> exact h) (by kernel_rfl) H ⟨trivial⟩ (fun _ w3 H2 => ?_); (clear H; (try clear w2); revert w3; intro w2 H))
      | (go_at_call 15; (with_reducible refine (hM _).mono ?_); rintro e w3 ⟨rfl, hb⟩; replace H := H.ext hb; clear hb; dsimp only; (skip))
      | (go_at_call 16; (with_reducible refine (hN _).mono ?_); rintro e w3 ⟨rfl, hb⟩; replace H := H.ext hb; clear hb; dsimp only; (skip))
      | (guard_target =~ wpList _ _ _ (_ :: _) _ _; (first | (guard_target =~ wpList _ _ _ (Oper.mk _ (.load _ _) _ _ _ _ :: _) _ _; refine BigFrame.wpList_want rfl (fun K hK => ?_); (refine o_loadNC (row := ?_) rfl rfl H ?_ ?_ ?_ (hK _ _ ?_); rotate_left 1; (repeat first | exact .head _ | apply List.Mem.tail); (focus (intro _; simp [cells_iV, iL_length, setL_i, setL_ii, agg_iL, cells_rV, rL_length, setL_r, setL_rr, agg_rL]; done)); (focus (intro _; simp [cells_iV, iL_length, setL_i, setL_ii, agg_iL, cells_rV, rL_length, setL_r, setL_rr, agg_rL]; done))); clear hK K) | (guard_target =~ wpList _ _ _ (Oper.mk _ (.store _ _ _) _ _ _ _ :: _) _ _; refine BigFrame.wpList_want rfl (fun K hK => ?_); refine o_store (l' := ?_) (row := ?_) rfl rfl H rfl ?_ ?_ ?_ ?_ (fun w3 H2 => hK _ _ ?_); rotate_left 2; (exact r0); (focus (intro _; (simp [Act.eval, List.getD, cells_iV, iL_length, setL_i, setL_ii, agg_iL, cells_rV, rL_length, setL_r, setL_rr, agg_rL]; done))); (focus (simp [Act.eval, List.getD, cells_iV, iL_length, setL_i, setL_ii, agg_iL, cells_rV, rL_length, setL_r, setL_rr, agg_rL]; done)); (exact rfl); clear hK K; clear H; (try clear w2); revert w3; intro w2 H; (try simp [Act.eval, List.getD, cells_iV, iL_length, setL_i, setL_ii, agg_iL, cells_rV, rL_length, setL_r, setL_rr, agg_rL] at H); (try simp [Value.cells, setL, cells_iV, iL_length, setL_i, setL_ii, agg_iL, cells_rV, rL_length, setL_r, setL_rr, agg_rL] at H)) | ((first | (guard_target =~ wpList _ _ _ (Oper.mk _ (.alloc _) _ _ _ _ :: _) _ _; refine BigFrame.wpList_want rfl (fun K hK => ?_); refine o_alloc (z := ?_) rfl ?_ H rfl (fun w3 b2 he H2 => hK _ _ ?_); rotate_left 1; (focus (intro _; simp; with_reducible exact rfl))) | (guard_target =~ wpList _ _ _ (Oper.mk _ (.box _ _) _ _ _ _ :: _) _ _; refine BigFrame.wpList_want rfl (fun K hK => ?_); refine o_box rfl H rfl (fun w3 b2 he H2 => hK _ _ ?_))); clear hK K he; clear H; (try clear w2); revert w3; intro w2 H; (try simp [Act.eval, List.getD, cells_iV, iL_length, setL_i, setL_ii, agg_iL, cells_rV, rL_length, setL_r, setL_rr, agg_rL] at H); (try simp [Value.cells, setL, cells_iV, iL_length, setL_i, setL_ii, agg_iL, cells_rV, rL_length, setL_r, setL_rr, agg_rL] at H); (first | (clear tk0; rename Nat => c1) | (clear tk1; rename Nat => c2) | (clear tk2; rename Nat => c3) | (clear tk3; rename Nat => c4)))); simp only [Act.put, List.setIfInBounds_toArray, List.set_cons_succ, List.set_cons_zero, cells_iV, iL_length, setL_i, setL_ii, agg_iL, cells_rV, rL_length, setL_r, setL_rr, agg_rL])
      | (guard_target =~ wpTreeC _ _ _ _ _ _ _; first | (guard_target =~ wpTreeC _ _ _ (Tr.e _ Tr.nil) _ _ _; refine treeC_last (by kernel_rfl) H rfl rfl (fun w3 H2 K hK => ?_); clear H; (try clear w2); (revert w3; intro w2 H); simp only [List.getElem_toArray, List.getElem_cons_succ, List.getElem_cons_zero]; (first | fail); simp only [Act.put, List.setIfInBounds_toArray, List.set_cons_succ, List.set_cons_zero, cells_iV, iL_length, setL_i, setL_ii, agg_iL, cells_rV, rL_length, setL_r, setL_rr, agg_rL]) | (guard_target =~ wpTreeC _ _ _ (Tr.q _ _) _ _ _; first | (refine treeC_quiet ⟨_, H, by repeat first | exact .here | apply Suf.there⟩ rfl rfl rfl (fun K hK => ?_); simp only [List.getElem_toArray, List.getElem_cons_succ, List.getElem_cons_zero]; first | (guard_target =~ Oper.quiet _ (Oper.mk _ (.load _ _) _ _ _ _) _ _ _; (refine q_loadNC (row := ?_) rfl rfl ?_ ?_ ?_ (hK _ ?_); rotate_left 1; (repeat first | exact .head _ | apply List.Mem.tail); (focus (intro _; simp [cells_iV, iL_length, setL_i, setL_ii, agg_iL, cells_rV, rL_length, setL_r, setL_rr, agg_rL]; done)); (focus (intro _; simp [cells_iV, iL_length, setL_i, setL_ii, agg_iL, cells_rV, rL_length, setL_r, setL_rr, agg_rL]; done))); clear hK K; simp only [Act.put, List.setIfInBounds_toArray, List.set_cons_succ, List.set_cons_zero, cells_iV, iL_length, setL_i, setL_ii, agg_iL, cells_rV, rL_length, setL_r, setL_rr, agg_rL]) | (go_big_quiet_op; (try refine ⟨_, fun _ _ => rfl, ?_⟩); refine hK _ ?_; clear hK K)) | (refine treeC_call (v := ?_) ⟨_, H, by repeat first | exact .here | apply Suf.there⟩ rfl rfl (fun w3 H K hK => ?_) ?_; rotate_left 1; (focus (simp only [List.getElem_toArray, List.getElem_cons_succ, List.getElem_cons_zero]; go_big_op; first | (go_at_call 17; (with_reducible refine (awake4_any _).mono ?_); rintro e w3 ⟨rfl, hb⟩; dsimp only; first | exact hK _ hb | exact hK _ (Ext.refl _)) | (go_at_call 18; (with_reducible refine (plain4_any _ _ _).mono ?_); rintro e w3 ⟨rfl, hb⟩; dsimp only; first | exact hK _ hb | exact hK _ (Ext.refl _)) | (go_at_call 15; (with_reducible refine (hM _).mono ?_); rintro e w3 ⟨rfl, hb⟩; dsimp only; first | exact hK _ hb | exact hK _ (Ext.refl _)) | (go_at_call 16; (with_reducible refine (hN _).mono ?_); rintro e w3 ⟨rfl, hb⟩; dsimp only; first | exact hK _ hb | exact hK _ (Ext.refl _)) | (go_at_call 19; (with_reducible refine (hR _).mono ?_); rintro e w3 ⟨rfl, hb⟩; dsimp only; first | exact hK _ hb | exact hK _ (Ext.refl _)))); simp only [List.getElem_toArray, List.getElem_cons_succ, List.getElem_cons_zero, Act.put, List.setIfInBounds_toArray, List.set_cons_succ, List.set_cons_zero]) | (refine treeC_skip ⟨_, H, by repeat first | exact .here | apply Suf.there⟩ rfl rfl ?_; simp only [List.getElem_toArray, List.getElem_cons_succ, List.getElem_cons_zero, Act.put, List.setIfInBounds_toArray, List.set_cons_succ, List.set_cons_zero])) | (guard_target =~ wpTreeC _ _ _ (Tr.both _ _) _ _ _; refine treeC_both ?_ ?_) | (guard_target =~ wpTreeC _ _ _ (Tr.e _ _) _ _ _; first | (refine treeC_one H rfl rfl (fun w3 H2 K hK => ?_); clear H; (try clear w2); (revert w3; intro w2 H); simp only [List.getElem_toArray, List.getElem_cons_succ, List.getElem_cons_zero]; first | ((first | fail); simp only [Act.put, List.setIfInBounds_toArray, List.set_cons_succ, List.set_cons_zero, cells_iV, iL_length, setL_i, setL_ii, agg_iL, cells_rV, rL_length, setL_r, setL_rr, agg_rL]) | (go_big_op; (first | fail))) | (refine treeC_one_skip (fun w3 hx => ⟨_, H.ext hx, by repeat first | exact .here | apply Suf.there⟩) rfl rfl (fun w3 hx => ?_); replace H := H.ext hx; clear hx; (try clear w2); revert w3; intro w2 H; simp only [List.getElem_toArray, List.getElem_cons_succ, List.getElem_cons_zero, Act.put, List.setIfInBounds_toArray, List.set_cons_succ, List.set_cons_zero])) | (guard_target =~ wpTreeC _ _ _ Tr.nil _ _ _; refine treeC_nil H (fun w3 H2 => ?_); clear H; (try clear w2); revert w3; intro w2 H)))
    go_ret
    exact ⟨rfl, H.below⟩
  · have u0 : (mkE n d != 0) = true := by simpa using hu
    generalize mkE n d = u at *
    clear hv hr hu
    go_enter Try.func3, Try.ntmps3
    have tk0 : True := trivial
    have tk1 : True := trivial
    have tk2 : True := trivial
    have tk3 : True := trivial
    have tk4 : True := trivial
    have tk5 : True := trivial
    have tk6 : True := trivial
    have tk7 : True := trivial
    go_wp2_with (first
      | (guard_target =~ Code.wp _ (Code.region 3 _ true) _ _ _; refine region_treeC0 3 (G := True) (.q 0 (.q 1 (.q 2 (.q 3 (.q 4 (.q 5 (.q 6 (.q 7 (.q 8 (.q 9 (.q 10 (.q 11 (.q 12 (.q 13 (.q 14 (.q 15 (.q 16 (.q 17 (.q 18 (.q 19 (.q 20 .nil))))))))))))))))))))) (by kernel_rfl) (by intro c a d v w h; cases d <;> exact h) (by kernel_rfl) H ⟨trivial⟩ (fun _ w3 H2 => ?_); (clear H; (try clear w2); revert w3; intro w2 H))
      | (go_at_call 15; (with_reducible refine (hM _).mono ?_); rintro e w3 ⟨rfl, hb⟩; replace H := H.ext hb; clear hb; dsimp only; (skip))
      | (go_at_call 16; (with_reducible refine (hN _).mono ?_); rintro e w3 ⟨rfl, hb⟩; replace H := H.ext hb; clear hb; dsimp only; (skip))
      | (guard_target =~ wpList _ _ _ (_ :: _) _ _; (first | (guard_target =~ wpList _ _ _ (Oper.mk _ (.load _ _) _ _ _ _ :: _) _ _; refine BigFrame.wpList_want rfl (fun K hK => ?_); (refine o_loadNC (row := ?_) rfl rfl H ?_ ?_ ?_ (hK _ _ ?_); rotate_left 1; (repeat first | exact .head _ | apply List.Mem.tail); (focus (intro _; simp [cells_iV, iL_length, setL_i, setL_ii, agg_iL, cells_rV, rL_length, setL_r, setL_rr, agg_rL]; done)); (focus (intro _; simp [cells_iV, iL_length, setL_i, setL_ii, agg_iL, cells_rV, rL_length, setL_r, setL_rr, agg_rL]; done))); clear hK K) | (guard_target =~ wpList _ _ _ (Oper.mk _ (.store _ _ _) _ _ _ _ :: _) _ _; refine BigFrame.wpList_want rfl (fun K hK => ?_); refine o_store (l' := ?_) (row := ?_) rfl rfl H rfl ?_ ?_ ?_ ?_ (fun w3 H2 => hK _ _ ?_); rotate_left 2; (exact r0); (focus (intro _; (simp [Act.eval, List.getD, cells_iV, iL_length, setL_i, setL_ii, agg_iL, cells_rV, rL_length, setL_r, setL_rr, agg_rL]; done))); (focus (simp [Act.eval, List.getD, cells_iV, iL_length, setL_i, setL_ii, agg_iL, cells_rV, rL_length, setL_r, setL_rr, agg_rL]; done)); (exact rfl); clear hK K; clear H; (try clear w2); revert w3; intro w2 H; (try simp [Act.eval, List.getD, cells_iV, iL_length, setL_i, setL_ii, agg_iL, cells_rV, rL_length, setL_r, setL_rr, agg_rL] at H); (try simp [Value.cells, setL, cells_iV, iL_length, setL_i, setL_ii, agg_iL, cells_rV, rL_length, setL_r, setL_rr, agg_rL] at H)) | ((first | (guard_target =~ wpList _ _ _ (Oper.mk _ (.alloc _) _ _ _ _ :: _) _ _; refine BigFrame.wpList_want rfl (fun K hK => ?_); refine o_alloc (z := ?_) rfl ?_ H rfl (fun w3 b2 he H2 => hK _ _ ?_); rotate_left 1; (focus (intro _; simp; with_reducible exact rfl))) | (guard_target =~ wpList _ _ _ (Oper.mk _ (.box _ _) _ _ _ _ :: _) _ _; refine BigFrame.wpList_want rfl (fun K hK => ?_); refine o_box rfl H rfl (fun w3 b2 he H2 => hK _ _ ?_))); clear hK K he; clear H; (try clear w2); revert w3; intro w2 H; (try simp [Act.eval, List.getD, cells_iV, iL_length, setL_i, setL_ii, agg_iL, cells_rV, rL_length, setL_r, setL_rr, agg_rL] at H); (try simp [Value.cells, setL, cells_iV, iL_length, setL_i, setL_ii, agg_iL, cells_rV, rL_length, setL_r, setL_rr, agg_rL] at H); (first | (clear tk0; rename Nat => c1) | (clear tk1; rename Nat => c2) | (clear tk2; rename Nat => c3) | (clear tk3; rename Nat => c4)))); simp only [Act.put, List.setIfInBounds_toArray, List.set_cons_succ, List.set_cons_zero, cells_iV, iL_length, setL_i, setL_ii, agg_iL, cells_rV, rL_length, setL_r, setL_rr, agg_rL])
      | (guard_target =~ wpTreeC _ _ _ _ _ _ _; first | (guard_target =~ wpTreeC _ _ _ (Tr.e _ Tr.nil) _ _ _; refine treeC_last (by kernel_rfl) H rfl rfl (fun w3 H2 K hK => ?_); clear H; (try clear w2); (revert w3; intro w2 H); simp only [List.getElem_toArray, List.getElem_cons_succ, List.getElem_cons_zero]; (first | fail); simp only [Act.put, List.setIfInBounds_toArray, List.set_cons_succ, List.set_cons_zero, cells_iV, iL_length, setL_i, setL_ii, agg_iL, cells_rV, rL_length, setL_r, setL_rr, agg_rL]) | (guard_target =~ wpTreeC _ _ _ (Tr.q _ _) _ _ _; first | (refine treeC_quiet ⟨_, H, by repeat first | exact .here | apply Suf.there⟩ rfl rfl rfl (fun K hK => ?_); simp only [List.getElem_toArray, List.getElem_cons_succ, List.getElem_cons_zero]; first | (guard_target =~ Oper.quiet _ (Oper.mk _ (.load _ _) _ _ _ _) _ _ _; (refine q_loadNC (row := ?_) rfl rfl ?_ ?_ ?_ (hK _ ?_); rotate_left 1; (repeat first | exact .head _ | apply List.Mem.tail); (focus (intro _; simp [cells_iV, iL_length, setL_i, setL_ii, agg_iL, cells_rV, rL_length, setL_r, setL_rr, agg_rL]; done)); (focus (intro _; simp [cells_iV, iL_length, setL_i, setL_ii, agg_iL, cells_rV, rL_length, setL_r, setL_rr, agg_rL]; done))); clear hK K; simp only [Act.put, List.setIfInBounds_toArray, List.set_cons_succ, List.set_cons_zero, cells_iV, iL_length, setL_i, setL_ii, agg_iL, cells_rV, rL_length, setL_r, setL_rr, agg_rL]) | (go_big_quiet_op; (try refine ⟨_, fun _ _ => rfl, ?_⟩); refine hK _ ?_; clear hK K)) | (refine treeC_call (v := ?_) ⟨_, H, by repeat first | exact .here | apply Suf.there⟩ rfl rfl (fun w3 H K hK => ?_) ?_; rotate_left 1; (focus (simp only [List.getElem_toArray, List.getElem_cons_succ, List.getElem_cons_zero]; go_big_op; first | (go_at_call 17; (with_reducible refine (awake4_any _).mono ?_); rintro e w3 ⟨rfl, hb⟩; dsimp only; first | exact hK _ hb | exact hK _ (Ext.refl _)) | (go_at_call 18; (with_reducible refine (plain4_any _ _ _).mono ?_); rintro e w3 ⟨rfl, hb⟩; dsimp only; first | exact hK _ hb | exact hK _ (Ext.refl _)) | (go_at_call 15; (with_reducible refine (hM _).mono ?_); rintro e w3 ⟨rfl, hb⟩; dsimp only; first | exact hK _ hb | exact hK _ (Ext.refl _)) | (go_at_call 16; (with_reducible refine (hN _).mono ?_); rintro e w3 ⟨rfl, hb⟩; dsimp only; first | exact hK _ hb | exact hK _ (Ext.refl _)))); simp only [List.getElem_toArray, List.getElem_cons_succ, List.getElem_cons_zero, Act.put, List.setIfInBounds_toArray, List.set_cons_succ, List.set_cons_zero]) | (refine treeC_skip ⟨_, H, by repeat first | exact .here | apply Suf.there⟩ rfl rfl ?_; simp only [List.getElem_toArray, List.getElem_cons_succ, List.getElem_cons_zero, Act.put, List.setIfInBounds_toArray, List.set_cons_succ, List.set_cons_zero])) | (guard_target =~ wpTreeC _ _ _ (Tr.both _ _) _ _ _; refine treeC_both ?_ ?_) | (guard_target =~ wpTreeC _ _ _ (Tr.e _ _) _ _ _; first | (refine treeC_one H rfl rfl (fun w3 H2 K hK => ?_); clear H; (try clear w2); (revert w3; intro w2 H); simp only [List.getElem_toArray, List.getElem_cons_succ, List.getElem_cons_zero]; first | ((first | fail); simp only [Act.put, List.setIfInBounds_toArray, List.set_cons_succ, List.set_cons_zero, cells_iV, iL_length, setL_i, setL_ii, agg_iL, cells_rV, rL_length, setL_r, setL_rr, agg_rL]) | (go_big_op; (first | fail))) | (refine treeC_one_skip (fun w3 hx => ⟨_, H.ext hx, by repeat first | exact .here | apply Suf.there⟩) rfl rfl (fun w3 hx => ?_); replace H := H.ext hx; clear hx; (try clear w2); revert w3; intro w2 H; simp only [List.getElem_toArray, List.getElem_cons_succ, List.getElem_cons_zero, Act.put, List.setIfInBounds_toArray, List.set_cons_succ, List.set_cons_zero])) | (guard_target =~ wpTreeC _ _ _ Tr.nil _ _ _; refine treeC_nil H (fun w3 H2 => ?_); clear H; (try clear w2); revert w3; intro w2 H)))
    go_ret
    exact ⟨rfl, H.below⟩
end Go.Proofs.Ytmmieilogpmocaa
