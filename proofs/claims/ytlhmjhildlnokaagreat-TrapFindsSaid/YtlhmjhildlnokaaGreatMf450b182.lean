/-
  The walks of the document's layer 4: a fraction, made.
-/
import Derived.Test.YtlhmjhildlnokaaGreatM586e9777
import Derived.Test.YtlhmjhildlnokaaGreatM28ca6b73
import Derived.Test.YtlhmjhildlnokaaGreatMd6b25c4b
import Derived.Test.YtlhmjhildlnokaaGreatM1e5483af
import Derived.Test.YtlhmjhildlnokaaGreatM5d6f42d9
import Derived.Test.YtlhmjhildlnokaaGreatM90117345
import Derived.Test.YtlhmjhildlnokaaGreatM808c9093
namespace Go.Proofs.YtlhmjhildlnokaaGreat
set_option linter.unusedVariables false
open Go.RowKit
variable {P : Program} {ops : Array Oper} {Q : Exit → Act → World → Prop} {B : Nat} {w0 : World} {lf : List Res}
abbrev AnsA := Value → Res → Prop
def Adds (P : Program) (ops : Array Oper) (B : Nat) (w0 : World) (lf : List Res) (o : Oper) (A : AnsA) (a : Act) : Prop :=
 Region.wanted o (yielded ops a.tmps) = true ∧ ∀ w l, Own B w0 w l → Suf lf l → o.wp P a w (fun a' w' => ∃ v r, A v r ∧ a' = a.put o.dst v ∧ Own B w0 w' (r :: l)) noQ
theorem Adds.wpOp {i : Nat} {o : Oper} {A : AnsA} {a : Act} (hi : ops[i]? = some o) (hy : Adds P ops B w0 lf o A a) {K : Act → World → Prop} {w : World} {l : List Res} (H : Own B w0 w l) (hs : Suf lf l)
  (h : ∀ v r w', A v r → Own B w0 w' (r :: l) → K (a.put o.dst v) w') : wpOp P ops Q i K a w := by
 unfold Go.wpOp
 simp only [hi, hy.1, if_true]
 exact .inl (Oper.wp_mono (fun a' w' ⟨v, r, h1, h2, h3⟩ => by rw [h2]; exact h v r w' h1 h3) (wp_noQ (hy.2 w l H hs)))
theorem Adds.put {o : Oper} {A : AnsA} {a : Act} (hy : Adds P ops B w0 lf o A a) (hsel : ∀ cs b, o.op ≠ .select cs b) (dst : Option Tmp) (u : Value) (h : ∀ d, dst = some d → d ∉ o.looksAt ops) (hd : ∀ d, o.dst = some d → dst ≠ some d) : Adds P ops B w0 lf o A (a.put dst u) := by
 refine ⟨by rw [wanted_put o a dst u h]; exact hy.1, fun w l H hs => ?_⟩
 have h2 := hy.2 w l H hs
 unfold Oper.wp at *
 rw [execOp_put o hsel a dst u h]
 generalize (execOp a.eval o).run P w = r at *
 have key : ∀ z w', (∃ v r, A v r ∧ a.put o.dst z = a.put o.dst v ∧ Own B w0 w' (r :: l)) → ∃ v r, A v r ∧ (a.put dst u).put o.dst z = (a.put dst u).put o.dst v ∧ Own B w0 w' (r :: l) := fun z w' ⟨v, r, h1, h2, h3⟩ =>
  ⟨v, r, h1, by rw [← Act.put_comm a z u hd, ← Act.put_comm a v u hd, h2], h3⟩
 cases r with
 | ok n w' =>
  cases n <;> simp only [Oper.upon] at h2 ⊢
  case value z => exact key z w' h2
  case skip => exact key _ w' h2
  case defer d =>
   exfalso
   obtain ⟨v, r, _, h2, _⟩ := h2
   have := congrArg (fun x : Act => x.defers.length) h2
   cases hdst : o.dst <;> simp [hdst, Act.put] at this
  case enter f args =>
   refine Calls.mono h2 fun e w'' he => ?_
   cases e with
   | returned z => exact key z w'' he
   | panicked c => exact he
   | outgrown => exact he
  case row row args => exact Rows.mono h2 fun z w'' he => key z w'' he
  all_goals exact h2
 | halt x w' => cases x <;> simp only [Oper.upon] at h2 ⊢ <;> exact h2
structure Adder where
 i : Nat
 o : Oper
 A : AnsA
def putAll : Act → List Adder → List (Value × Res) → Act
 | a, x :: R, p :: L => putAll (a.put x.o.dst p.1) R L
 | a, _, _ => a
def doneAll : Array Bool → List Nat → Array Bool
 | done, i :: R => doneAll (done.setIfInBounds i true) R
 | done, [] => done
def GoodL : List Adder → List (Value × Res) → Prop
 | [], [] => True
 | x :: R, p :: L => x.A p.1 p.2 ∧ GoodL R L
 | _, _ => False
theorem putAll_mid : ∀ (R1 : List Adder) (L1 : List (Value × Res)) (x : Adder) (p : Value × Res) (R2 : List Adder) (L2 : List (Value × Res)) (a : Act), R1.length = L1.length → (∀ y ∈ R1, ∀ t, x.o.dst = some t → y.o.dst ≠ some t) →
  putAll a (R1 ++ x :: R2) (L1 ++ p :: L2) = putAll (a.put x.o.dst p.1) (R1 ++ R2) (L1 ++ L2)
 | [], [], x, p, R2, L2, a, _, _ => rfl
 | [], _ :: _, _, _, _, _, _, h, _ => by simp at h
 | _ :: _, [], _, _, _, _, _, h, _ => by simp at h
 | y :: R1, q :: L1, x, p, R2, L2, a, h, hd => by
  simp only [List.cons_append]
  unfold putAll
  rw [putAll_mid R1 L1 x p R2 L2 _ (by simpa using h) fun z hz => hd z (List.mem_cons_of_mem _ hz), Act.put_comm a p.1 q.1 (hd y (by simp))]
theorem doneAll_mid (R1 : List Nat) (i : Nat) (R2 : List Nat) : ∀ (done : Array Bool), doneAll done (R1 ++ i :: R2) = doneAll (done.setIfInBounds i true) (R1 ++ R2) := by
 induction R1 with
 | nil => intro done; rfl
 | cons j R1 ih =>
  intro done
  simp only [List.cons_append]
  unfold doneAll
  rw [ih]
  by_cases h : i = j
  ·subst h; rfl
  ·rw [Array.setIfInBounds_comm _ _ h]
theorem good_split : ∀ (R1 R2 : List Adder) (L : List (Value × Res)), GoodL (R1 ++ R2) L → ∃ L1 L2, L = L1 ++ L2 ∧ GoodL R1 L1 ∧ GoodL R2 L2 ∧ R1.length = L1.length
 | [], R2, L, h => ⟨[], L, rfl, trivial, h, rfl⟩
 | x :: R1, R2, [], h => h.elim
 | x :: R1, R2, p :: L, h => by
  obtain ⟨L1, L2, h1, h2, h3, h4⟩ := good_split R1 R2 L h.2
  exact ⟨p :: L1, L2, by rw [h1]; rfl, ⟨h.1, h2⟩, h3, by simp [h4]⟩
theorem good_join : ∀ (R1 R2 : List Adder) (L1 L2 : List (Value × Res)), GoodL R1 L1 → GoodL R2 L2 → GoodL (R1 ++ R2) (L1 ++ L2)
 | [], _, [], _, _, h => h
 | [], _, _ :: _, _, h, _ => h.elim
 | _ :: _, _, [], _, h, _ => h.elim
 | x :: R1, R2, p :: L1, L2, h, k => ⟨h.1, good_join R1 R2 L1 L2 h.2 k⟩
def topoB (ops : Array Oper) : Array Bool → List Nat → Bool
 | done, i :: R => (Region.ready .any ops done).contains i && topoB ops (done.setIfInBounds i true) R
 | _, [] => true
theorem Down.topo {ops : Array Oper} : ∀ (R : List Nat) (done : Array Bool), Down ops done → topoB ops done R = true → Down ops (doneAll done R)
 | [], _, h, _ => h
 | i :: R, done, h, ht => by
  simp only [topoB, Bool.and_eq_true] at ht
  exact Down.topo R _ (h.set (by simpa using ht.1)) ht.2
def directB (ops : Array Oper) (j i : Nat) : Bool :=
 match ops[j]? with
 | none => false
 | some o => o.after.any fun e => Region.binds .any e && e.on == i
def reachB (ops : Array Oper) (done : Array Bool) : Nat → Nat → Nat → Bool
 | 0, _, _ => false
 | n + 1, j, i => directB ops j i || (List.range ops.size).any fun m => !done.getD m true && (directB ops j m && reachB ops done n m i)
def waitB (ops : Array Oper) (done : Array Bool) (R : List Nat) : Bool :=
 (List.range ops.size).all fun j => done.getD j true || R.contains j || R.all fun i => reachB ops done 5 j i
theorem direct_done {ops : Array Oper} {done : Array Bool} {j i : Nat} (hj : j ∈ Region.ready .any ops done) (h : directB ops j i = true) : done.getD i true = true := by
 obtain ⟨_, o, ho, hall⟩ := mem_ready.1 hj
 unfold directB at h
 rw [ho] at h
 obtain ⟨e, he, h⟩ := Array.any_eq_true'.1 h
 simp only [Bool.and_eq_true, beq_iff_eq] at h
 have h1 := hall e he h.1
 rw [h.2] at h1
 rcases Nat.lt_or_ge i done.size with h' | h'
 ·simp [h'] at h1 ⊢; exact h1
 ·simp [Array.getElem?_eq_none h'] at h1 ⊢
theorem reach_step {ops : Array Oper} {done : Array Bool} {n j i : Nat} (hj : j ∈ Region.ready .any ops done) (hi : done.getD i true = false) : reachB ops done n j i = false := by
 cases n with
 | zero => rfl
 | succ n =>
  cases h : reachB ops done (n + 1) j i with
  | false => rfl
  | true =>
   exfalso
   simp only [reachB, Bool.or_eq_true, List.any_eq_true, Bool.and_eq_true] at h
   rcases h with h | ⟨m, _, hm, h, _⟩
   ·rw [direct_done hj h] at hi; cases hi
   ·rw [direct_done hj h] at hm; simp at hm
theorem reach_less {ops : Array Oper} {done : Array Bool} {x i : Nat} (hx : x ∈ Region.ready .any ops done) (hi : done.getD i true = false) : ∀ (n j : Nat), reachB ops done n j i = true → reachB ops (done.setIfInBounds x true) n j i = true := by
 intro n
 induction n with
 | zero => intro j h; simp [reachB] at h
 | succ n ih =>
  intro j h
  simp only [reachB, Bool.or_eq_true, List.any_eq_true, Bool.and_eq_true] at h ⊢
  rcases h with h | ⟨m, hm, h0, h1, h2⟩
  ·exact .inl h
  ·by_cases hmx : x = m
   ·subst hmx
    rw [reach_step hx hi] at h2
    cases h2
   ·exact .inr ⟨m, hm, by rw [getD_set_ne true hmx]; exact h0, h1, ih m h2⟩
theorem topo_less {ops : Array Oper} : ∀ (R1 : List Nat) (i : Nat) (R2 : List Nat) (done : Array Bool), (R1 ++ i :: R2).Nodup → topoB ops done (R1 ++ i :: R2) = true → topoB ops (done.setIfInBounds i true) (R1 ++ R2) = true
 | [], i, R2, done, _, h => by
  simp only [List.nil_append, topoB, Bool.and_eq_true] at h
  exact h.2
 | j :: R1, i, R2, done, hn, h => by
  simp only [List.cons_append, topoB, Bool.and_eq_true, List.contains_iff_mem] at h ⊢
  simp only [List.cons_append, List.nodup_cons] at hn
  have hij : j ≠ i := fun e => hn.1 (by rw [e]; simp)
  refine ⟨ready_mono h.1 hij, ?_⟩
  rw [Array.setIfInBounds_comm _ _ (Ne.symm hij)]
  exact topo_less R1 i R2 _ hn.2 h.2
theorem topo_open {ops : Array Oper} : ∀ (R : List Nat) (done : Array Bool), R.Nodup → topoB ops done R = true → ∀ i ∈ R, done.getD i true = false
 | i :: R, done, hn, h, k, hk => by
  simp only [topoB, Bool.and_eq_true, List.contains_iff_mem] at h
  simp only [List.nodup_cons] at hn
  rcases List.mem_cons.1 hk with rfl | hk
  ·exact (mem_ready.1 h.1).1
  ·have := topo_open R _ hn.2 h.2 k hk
   rwa [getD_set_ne true (fun e => hn.1 (by rw [e]; exact hk))] at this
theorem ready_in {ops : Array Oper} {done : Array Bool} {R : List Nat} (hn : R.Nodup) (hne : R ≠ []) (ht : topoB ops done R = true) (hw : waitB ops done R = true) {j : Nat} (hj : j ∈ Region.ready .any ops done) : j ∈ R := by
 obtain ⟨h0, o, ho, hall⟩ := mem_ready.1 hj
 have hlt : j < ops.size := (Array.getElem?_eq_some_iff.1 ho).1
 have h := List.all_eq_true.1 hw j (List.mem_range.2 hlt)
 simp only [h0, Bool.false_or, Bool.or_eq_true, List.contains_iff_mem] at h
 rcases h with h | h
 ·exact h
 ·obtain ⟨i, R', rfl⟩ : ∃ i R', R = i :: R' := by cases R with | nil => exact absurd rfl hne | cons i R' => exact ⟨i, R', rfl⟩
  have := List.all_eq_true.1 h i (by simp)
  rw [reach_step hj (topo_open _ done hn ht i (by simp))] at this
  cases this
theorem wait_less {ops : Array Oper} {done : Array Bool} {R1 : List Nat} {i : Nat} {R2 : List Nat} (hi : i ∈ Region.ready .any ops done) (hop : ∀ k ∈ R1 ++ i :: R2, done.getD k true = false) (h : waitB ops done (R1 ++ i :: R2) = true) : waitB ops (done.setIfInBounds i true) (R1 ++ R2) = true := by
 unfold waitB at *
 rw [List.all_eq_true] at *
 intro j hj
 have h1 := h j hj
 have hlt := List.mem_range.1 hj
 have hsub : ∀ k ∈ R1 ++ i :: R2, k ≠ i → k ∈ R1 ++ R2 := fun k hk hki => by
  rcases List.mem_append.1 hk with h2 | h2
  ·exact List.mem_append.2 (.inl h2)
  ·rcases List.mem_cons.1 h2 with h3 | h3
   ·exact absurd h3 hki
   ·exact List.mem_append.2 (.inr h3)
 have hup : ∀ k ∈ R1 ++ R2, k ∈ R1 ++ i :: R2 := fun k hk => by
  rcases List.mem_append.1 hk with h2 | h2
  ·exact List.mem_append.2 (.inl h2)
  ·exact List.mem_append.2 (.inr (List.mem_cons_of_mem _ h2))
 simp only [Bool.or_eq_true, List.contains_iff_mem] at h1 ⊢
 by_cases hji : j = i
 ·subst hji
  left; left
  by_cases hs : j < done.size
  ·simp [hs]
  ·simp [hs]
 ·rw [getD_set_ne true (fun e => hji e.symm)]
  rcases h1 with (h1 | h1) | h1
  ·exact .inl (.inl h1)
  ·exact .inl (.inr (hsub j h1 hji))
  ·right
   rw [List.all_eq_true] at h1 ⊢
   intro k hk
   exact reach_less hi (hop k (hup k hk)) 5 j (h1 k (hup k hk))
def Adder.idx (x : Adder) : Nat := x.i
def apart2 (ops : Array Oper) (x y : Adder) : Prop := x.o.apart ops y.o = true ∧ y.o.apart ops x.o = true
theorem any_adders (hsel : ∀ (j : Nat) (x : Oper) cs b, ops[j]? = some x → x.op ≠ .select cs b) (f : Nat) : ∀ (n : Nat) (R : List Adder) (done : Array Bool) (a : Act) (w : World) (l : List Res), R.length = n →
  (∀ x ∈ R, ops[x.i]? = some x.o ∧ Adds P ops B w0 lf x.o x.A a) → R.Pairwise (apart2 ops) → (R.map Adder.idx).Nodup → topoB ops done (R.map Adder.idx) = true → waitB ops done (R.map Adder.idx) = true → Own B w0 w l → Suf lf l →
  (∀ L, GoodL R L → ∀ w', Own B w0 w' (L.map (·.2) ++ l) → wpAnyC P ops Q (Keeps B w0 lf) f (doneAll done (R.map Adder.idx)) (putAll a R L) w') →
  wpAnyC P ops Q (Keeps B w0 lf) (n + f) done a w := by
 intro n
 induction n with
 | zero =>
  intro R done a w l hR _ _ _ _ _ H _ hK
  have : R = [] := List.eq_nil_of_length_eq_zero hR
  subst this
  have := hK [] trivial w (by simpa using H)
  rw [Nat.zero_add]
  exact this
 | succ n ih =>
  intro R done a w l hR hA hap hn ht hw H hs hK
  have hne : R ≠ [] := fun h => by rw [h] at hR; simp at hR
  have hne' : R.map Adder.idx ≠ [] := fun h => hne (List.map_eq_nil_iff.1 h)
  rw [Nat.succ_add]
  refine ⟨fun h => ?_, fun j hj w2 hx => ?_⟩
  ·obtain ⟨x, R', rfl⟩ : ∃ x R', R = x :: R' := by cases R with | nil => exact absurd rfl hne | cons x R' => exact ⟨x, R', rfl⟩
   simp only [List.map_cons, topoB, Bool.and_eq_true, List.contains_iff_mem] at ht
   rw [h] at ht
   cases ht.1
  ·have hjR := ready_in hn hne' ht hw hj
   obtain ⟨x, hx1, rfl⟩ := List.mem_map.1 hjR
   obtain ⟨R1, R2, rfl⟩ := List.append_of_mem hx1
   obtain ⟨ho, hy⟩ := hA x (by simp)
   refine hy.wpOp ho (H.ext hx) hs fun v r w' hv H' => ⟨.inr ⟨_, H', .there hs⟩, ?_⟩
   rw [List.map_append, List.map_cons] at hn ht hw
   obtain ⟨p1, p2, p3⟩ := List.pairwise_append.1 hap
   obtain ⟨p4, p5⟩ := List.pairwise_cons.1 p2
   have hother : ∀ y ∈ R1 ++ R2, apart2 ops x y := fun y hy => by
    rcases List.mem_append.1 hy with h | h
    ·have := p3 y h x (by simp); exact ⟨this.2, this.1⟩
    ·exact p4 y h
   have hdst : ∀ y ∈ R1 ++ R2, ∀ t, x.o.dst = some t → y.o.dst ≠ some t := fun y hy => (Oper.apart_spec (hother y hy).1).2.1
   refine ih (R1 ++ R2) _ _ w' (r :: l) (by simp at hR ⊢; omega) (fun y hy => ?_) (List.pairwise_append.2 ⟨p1, p5, fun u hu v hv => p3 u hu v (List.mem_cons_of_mem _ hv)⟩) ?_ ?_ ?_ H' (.there hs) (fun L hL w3 H3 => ?_)
   ·obtain ⟨q1, q2⟩ := hA y (by
     rcases List.mem_append.1 hy with h | h
     ·exact List.mem_append.2 (.inl h)
     ·exact List.mem_append.2 (.inr (List.mem_cons_of_mem _ h)))
    have s1 := Oper.apart_spec (hother y hy).1
    exact ⟨q1, q2.put (fun cs b => hsel y.i y.o cs b q1) _ _ s1.1 fun d hd e => s1.2.1 d e hd⟩
   ·rw [List.map_append]
    exact (List.nodup_append.1 hn).1 |> fun h1 => List.nodup_append.2 ⟨h1, (List.nodup_cons.1 (List.nodup_append.1 hn).2.1).2, fun u hu v hv => (List.nodup_append.1 hn).2.2 u hu v (List.mem_cons_of_mem _ hv)⟩
   ·rw [List.map_append]; exact topo_less _ _ _ _ hn ht
   ·rw [List.map_append]; exact wait_less hj (fun k hk => topo_open _ done hn ht k hk) hw
   ·obtain ⟨L1, L2, rfl, g1, g2, hlen⟩ := good_split R1 R2 L hL
    have hk := hK (L1 ++ (v, r) :: L2) (good_join R1 (x :: R2) L1 ((v, r) :: L2) g1 ⟨hv, g2⟩) w3 (by
     refine H3.perm ?_
     simp only [List.map_append, List.map_cons, List.append_assoc, List.cons_append]
     exact List.Perm.append_left _ (List.perm_middle (l₁ := L2.map (·.2)) (a := r) (l₂ := l)).symm)
    rw [List.map_append, List.map_cons, doneAll_mid, putAll_mid R1 L1 x (v, r) R2 L2 a hlen (fun y hy => hdst y (List.mem_append.2 (.inl hy)))] at hk
    rw [List.map_append]
    exact hk
inductive TrA where
 | nil
 | q (i : Nat) (t : TrA)
 | e (i : Nat) (t : TrA)
 | both (s t : TrA)
 | add (R : List Nat) (t : TrA)
def wpTreeA (P : Program) (ops : Array Oper) (Q : Exit → Act → World → Prop) (B : Nat) (w0 : World) (lf : List Res) : TrA → Act → World → Prop
 | .nil, a, w => ∀ w', Ext w w' → Q .normal a w'
 | .q i t, a, w => ∃ o v, ops[i]? = some o ∧ First P ops (Keeps B w0 lf) o v a ∧ Keeps B w0 lf w ∧ wpTreeA P ops Q B w0 lf t (a.put o.dst v) w
 | .e i t, a, w => ∀ w2, Ext w w2 → wpOp P ops Q i (fun a' w' => (closerP ops i = true ∨ Keeps B w0 lf w') ∧ wpTreeA P ops Q B w0 lf t a' w') a w2
 | .both s t, a, w => wpTreeA P ops Q B w0 lf s a w ∧ wpTreeA P ops Q B w0 lf t a w
 | .add R t, a, w => ∃ (l : List Res) (L : List Adder), Own B w0 w l ∧ Suf lf l ∧ L.map Adder.idx = R ∧ (∀ x ∈ L, ops[x.i]? = some x.o ∧ Adds P ops B w0 lf x.o x.A a) ∧ L.Pairwise (apart2 ops) ∧
   ∀ vr, GoodL L vr → ∀ w', Own B w0 w' (vr.map (·.2) ++ l) → wpTreeA P ops Q B w0 lf t (putAll a L vr) w'
def TrA.heads : TrA → List Nat
 | .e i _ => [i]
 | .both s t => s.heads ++ t.heads
 | _ => []
mutual
def treeBA (ops : Array Oper) : TrA → Nat → Array Bool → Bool
 | .nil, f, done => f == 0 && Region.ready .any ops done == []
 | .q i t, f, done => match f with
  | 0 => false
  | f + 1 => (Region.ready .any ops done).contains i && Region.free .any ops done i && treeBA ops t f (done.setIfInBounds i true)
 | .e i t, f, done => match f with
  | 0 => false
  | f + 1 => Region.ready .any ops done == [i] && treeBA ops t f (done.setIfInBounds i true)
 | .both s t, f, done => match f with
  | 0 => false
  | f + 1 => Region.ready .any ops done == s.heads ++ t.heads && !(s.heads ++ t.heads).isEmpty && (brBA ops s f done && brBA ops t f done)
 | .add R t, f, done => decide (R.length ≤ f) && decide R.Nodup && topoB ops done R && waitB ops done R && treeBA ops t (f - R.length) (doneAll done R)
def brBA (ops : Array Oper) : TrA → Nat → Array Bool → Bool
 | .e i t, f, done => treeBA ops t f (done.setIfInBounds i true)
 | .both s t, f, done => brBA ops s f done && brBA ops t f done
 | _, _, _ => false
end
def TrA.sz : TrA → Nat
 | .nil => 1
 | .q _ t => t.sz + 1
 | .e _ t => t.sz + 1
 | .both s t => s.sz + t.sz + 1
 | .add _ t => t.sz + 1
theorem branchA {f : Nat} {done : Array Bool} {a : Act} {w : World} {i : Nat} : ∀ {t : TrA}, i ∈ t.heads → brBA ops t f done = true → wpTreeA P ops Q B w0 lf t a w →
  ∃ t', treeBA ops t' f (done.setIfInBounds i true) = true ∧ t'.sz < t.sz ∧ ∀ w2, Ext w w2 → wpOp P ops Q i (fun a' w' => (closerP ops i = true ∨ Keeps B w0 lf w') ∧ wpTreeA P ops Q B w0 lf t' a' w') a w2
 | .nil, h, _, _ => by cases h
 | .q _ _, h, _, _ => by cases h
 | .add _ _, h, _, _ => by cases h
 | .e j t, h, hB, hw => by
  obtain rfl : i = j := by simpa [TrA.heads] using h
  rw [brBA] at hB
  exact ⟨t, hB, by simp [TrA.sz], hw⟩
 | .both s t, h, hB, hw => by
  rw [brBA, Bool.and_eq_true] at hB
  rcases List.mem_append.1 h with h | h
  ·obtain ⟨t', h1, h2, h3⟩ := branchA h hB.1 hw.1
   exact ⟨t', h1, by simp only [TrA.sz]; omega, h3⟩
  ·obtain ⟨t', h1, h2, h3⟩ := branchA h hB.2 hw.2
   exact ⟨t', h1, by simp only [TrA.sz]; omega, h3⟩
theorem anyA_tree (hsel : Region.noSelect ops = true) (hQ : ∀ c a d v w, Q (.panic c) (Act.put a d v) w → Q (.panic c) a w) :
  ∀ (k : Nat) (t : TrA) (f : Nat) (done : Array Bool) (a : Act) (w : World), t.sz ≤ k → treeBA ops t f done = true → Down ops done → wpTreeA P ops Q B w0 lf t a w → wpAnyC P ops Q (Keeps B w0 lf) f done a w := by
 intro k
 induction k with
 | zero => intro t f done a w hk; cases t <;> simp [TrA.sz] at hk
 | succ k ih =>
  intro t f done a w hk hB hD h
  cases t with
  | nil =>
   rw [treeBA, Bool.and_eq_true, beq_iff_eq] at hB
   obtain ⟨rfl, hr⟩ := hB
   exact ⟨by simpa using hr, h⟩
  | q i t =>
   cases f with
   | zero => simp [treeBA] at hB
   | succ f =>
    simp only [treeBA, Bool.and_eq_true] at hB
    obtain ⟨⟨hr, hf⟩, hB'⟩ := hB
    obtain ⟨o, v, ho, hy, hS, hK⟩ := h
    exact wpAnyC_first keeps_grows ho (Region.noSelect_spec hsel) (fun c a w h => hQ c a o.dst v w h) f done a w (Region.free_spec ho hf) hD (by simpa using hr) hy hS (ih _ _ _ _ _ (by simp only [TrA.sz] at hk; omega) hB' (hD.set (by simpa using hr)) hK)
  | e i t =>
   cases f with
   | zero => simp [treeBA] at hB
   | succ f =>
    simp only [treeBA, Bool.and_eq_true, beq_iff_eq] at hB
    refine ⟨fun hr => (by rw [hB.1] at hr; cases hr), fun j hj w2 hx => ?_⟩
    rw [hB.1] at hj
    obtain rfl := List.mem_singleton.1 hj
    exact wpOp_mono (fun a' w' ⟨h1, h3⟩ => ⟨h1, ih _ _ _ _ _ (by simp only [TrA.sz] at hk; omega) hB.2 (hD.set (by rw [hB.1]; simp)) h3⟩) (h w2 hx)
  | both s t =>
   cases f with
   | zero => simp [treeBA] at hB
   | succ f =>
    simp only [treeBA, Bool.and_eq_true, beq_iff_eq, Bool.not_eq_true'] at hB
    obtain ⟨⟨hr, hne⟩, hs, ht⟩ := hB
    refine ⟨fun h0 => (by rw [hr] at h0; rw [h0] at hne; simp at hne), fun j hj w2 hx => ?_⟩
    have hj0 := hj
    rw [hr] at hj
    rcases List.mem_append.1 hj with hj | hj
    ·obtain ⟨t', h1, h2, h3⟩ := branchA hj hs h.1
     exact wpOp_mono (fun a' w' ⟨g1, g3⟩ => ⟨g1, ih t' _ _ _ _ (by simp only [TrA.sz] at hk; omega) h1 (hD.set hj0) g3⟩) (h3 w2 hx)
    ·obtain ⟨t', h1, h2, h3⟩ := branchA hj ht h.2
     exact wpOp_mono (fun a' w' ⟨g1, g3⟩ => ⟨g1, ih t' _ _ _ _ (by simp only [TrA.sz] at hk; omega) h1 (hD.set hj0) g3⟩) (h3 w2 hx)
  | add R t =>
   simp only [treeBA, Bool.and_eq_true, decide_eq_true_eq] at hB
   obtain ⟨⟨⟨⟨hlen, hn⟩, ht⟩, hw⟩, hB'⟩ := hB
   obtain ⟨l, L, H, hs, hL, hA, hap, hK⟩ := h
   have hl : L.length = R.length := by rw [← hL, List.length_map]
   subst hL
   have e : f = (L.map Adder.idx).length + (f - (L.map Adder.idx).length) := by omega
   rw [e]
   exact any_adders (Region.noSelect_spec hsel) (f - (L.map Adder.idx).length) (L.map Adder.idx).length L done a w l hl hA hap hn ht hw H hs fun vr hg w' H' => ih _ _ _ _ _ (by simp only [TrA.sz] at hk; omega) hB' (hD.topo _ _ ht) (hK vr hg w' H')
def brA (B : TrA → Array Bool → Bool) (done : Array Bool) : TrA → Bool
 | .e i t => B t (done.setIfInBounds i true)
 | .both s t => brA B done s && brA B done t
 | _ => false
def treeBF (ops : Array Oper) : Nat → TrA → Nat → Array Bool → Bool
 | 0, _, _, _ => false
 | _ + 1, .nil, f, done => f == 0 && Region.ready .any ops done == []
 | k + 1, .q i t, f, done => match f with
  | 0 => false
  | f + 1 => (Region.ready .any ops done).contains i && Region.free .any ops done i && treeBF ops k t f (done.setIfInBounds i true)
 | k + 1, .e i t, f, done => match f with
  | 0 => false
  | f + 1 => Region.ready .any ops done == [i] && treeBF ops k t f (done.setIfInBounds i true)
 | k + 1, .both s t, f, done => match f with
  | 0 => false
  | f + 1 => Region.ready .any ops done == s.heads ++ t.heads && !(s.heads ++ t.heads).isEmpty && brA (fun u d => treeBF ops k u f d) done (.both s t)
 | k + 1, .add R t, f, done => decide (R.length ≤ f) && decide R.Nodup && topoB ops done R && waitB ops done R && treeBF ops k t (f - R.length) (doneAll done R)
theorem brBA_of {f : Nat} {B : TrA → Array Bool → Bool} {done : Array Bool} (hB : ∀ u d, B u d = true → treeBA ops u f d = true) : ∀ (t : TrA), brA B done t = true → brBA ops t f done = true
 | .nil, h => by simp [brA] at h
 | .q _ _, h => by simp [brA] at h
 | .add _ _, h => by simp [brA] at h
 | .e i t, h => by rw [brBA]; exact hB _ _ h
 | .both s t, h => by
  simp only [brA, Bool.and_eq_true] at h
  rw [brBA, Bool.and_eq_true]
  exact ⟨brBA_of hB s h.1, brBA_of hB t h.2⟩
theorem treeBA_of : ∀ (k : Nat) (t : TrA) (f : Nat) (done : Array Bool), treeBF ops k t f done = true → treeBA ops t f done = true := by
 intro k
 induction k with
 | zero => intro t f done h; simp [treeBF] at h
 | succ k ih =>
  intro t f done h
  cases t with
  | nil => rw [treeBA]; exact h
  | q i t =>
   cases f with
   | zero => simp [treeBF] at h
   | succ f =>
    simp only [treeBF, Bool.and_eq_true] at h
    simp only [treeBA, Bool.and_eq_true]
    exact ⟨h.1, ih _ _ _ h.2⟩
  | e i t =>
   cases f with
   | zero => simp [treeBF] at h
   | succ f =>
    simp only [treeBF, Bool.and_eq_true] at h
    simp only [treeBA, Bool.and_eq_true]
    exact ⟨h.1, ih _ _ _ h.2⟩
  | both s t =>
   cases f with
   | zero => simp [treeBF] at h
   | succ f =>
    simp only [treeBF, Bool.and_eq_true] at h
    have h2 := brBA_of (ops := ops) (f := f) (done := done) (fun u d hu => ih u f d hu) (.both s t) h.2
    rw [brBA, Bool.and_eq_true] at h2
    simp only [treeBA, Bool.and_eq_true]
    exact ⟨h.1, h2⟩
  | add R t =>
   simp only [treeBF, Bool.and_eq_true] at h
   simp only [treeBA, Bool.and_eq_true]
   exact ⟨h.1, ih _ _ _ h.2⟩
def treeOkA (ops : Array Oper) (t : TrA) : Bool := Region.noSelect ops && treeBF ops (ops.size + 2) t ops.size (Array.replicate ops.size false)
theorem region_treeA {id : Nat} {a : Act} {w w0 : World} {B : Nat} {rs : List Res} {l : List Oper} {G : Prop} (tag k : Nat) (t : TrA) (hm : P.follows .mixedOrders = true) (hQ : ∀ c a d v w, Q (.panic c) (Act.put a d v) w → Q (.panic c) a w) (hB : treeOkA l.toArray t = true)
  (H : Own B w0 w rs) (hG : Key tag G) (h : Key tag G → ∀ w', Own B w0 w' rs → wpTreeA P l.toArray Q B w0 (rs.drop k) t a w') : (Code.region id l.toArray true).wp P Q a w := by
 simp only [treeOkA, Bool.and_eq_true] at hB
 exact wp_region_any hm (wpAny_of_C _ _ _ _ (anyA_tree hB.1 hQ t.sz t _ _ a w.drew (Nat.le_refl _) (treeBA_of _ _ _ _ hB.2) (down_start _ _) (h hG _ H.drew)))
theorem region_treeA0 {id : Nat} {a : Act} {w w0 : World} {B : Nat} {rs : List Res} {l : List Oper} {G : Prop} (tag : Nat) (t : TrA) (hm : P.follows .mixedOrders = true) (hQ : ∀ c a d v w, Q (.panic c) (Act.put a d v) w → Q (.panic c) a w) (hB : treeOkA l.toArray t = true)
  (H : Own B w0 w rs) (hG : Key tag G) (h : Key tag G → ∀ w', Own B w0 w' rs → wpTreeA P l.toArray Q B w0 rs t a w') : (Code.region id l.toArray true).wp P Q a w := region_treeA tag 0 t hm hQ hB H hG h
section
variable {t s : TrA} {i : Nat} {a : Act} {w : World} {o : Oper} {l : List Res}
theorem treeA_quiet (hS : Keeps B w0 lf w) (ho : ops[i]? = some o) (hb : quietB o.op = true) (hw : Region.wanted o (yielded ops a.tmps) = true)
  (h : ∀ K : Act → Prop, (∀ a, wpTreeA P ops Q B w0 lf t a w → K a) → o.quiet P a (Keeps B w0 lf) K) : wpTreeA P ops Q B w0 lf (.q i t) a w := by
 obtain ⟨v, h1, h2⟩ := h (fun a => wpTreeA P ops Q B w0 lf t a w) (fun _ h => h)
 refine ⟨o, v, ho, .inl (.inl ⟨hw, fun w' hw' => ?_⟩), hS, h2⟩
 have h3 := h1 w' hw'
 unfold Oper.quietAt at h3
 cases hr : (execOp a.eval o).run P w' with
 | ok n w'' =>
  obtain ⟨u, rfl⟩ := quietB_value hb hr
  rw [hr] at h3
  obtain ⟨rfl, rfl⟩ := h3
  rfl
 | halt x w'' => rw [hr] at h3; exact h3.elim
theorem treeA_skip (hS : Keeps B w0 lf w) (ho : ops[i]? = some o) (hw : Region.wanted o (yielded ops a.tmps) = false) (h : wpTreeA P ops Q B w0 lf t (a.put o.dst undef) w) : wpTreeA P ops Q B w0 lf (.q i t) a w := ⟨o, undef, ho, .inl (.inr ⟨hw, rfl⟩), hS, h⟩
theorem treeA_call {v : Value} (hS : Keeps B w0 lf w) (ho : ops[i]? = some o) (hw : Region.wanted o (yielded ops a.tmps) = true)
  (h : ∀ w', Own B w0 w' lf → ∀ K : Act → World → Prop, (∀ w2, Ext w' w2 → K (a.put o.dst v) w2) → o.wp P a w' K noQ) (hk : wpTreeA P ops Q B w0 lf t (a.put o.dst v) w) : wpTreeA P ops Q B w0 lf (.q i t) a w :=
 ⟨o, v, ho, .inr ⟨hw, fun w' ⟨l, H, hs⟩ => h w' (H.sub hs.sub) _ fun w2 h2 => ⟨rfl, h2⟩⟩, hS, hk⟩
theorem treeA_one (H : Own B w0 w l) (ho : ops[i]? = some o) (hw : Region.wanted o (yielded ops a.tmps) = true) (h : ∀ w2, Own B w0 w2 l → ∀ K : Act → World → Prop, (∀ a w', Keeps B w0 lf w' → wpTreeA P ops Q B w0 lf t a w' → K a w') → o.wp P a w2 K Q) :
  wpTreeA P ops Q B w0 lf (.e i t) a w := by
 intro w2 hx
 show wpOp P ops Q i _ a w2
 unfold wpOp
 simp only [ho, hw, if_true]
 exact .inl (h w2 (H.ext hx) _ fun a w' h1 h2 => ⟨.inr h1, h2⟩)
theorem treeA_last (hc : closerP ops i = true) (H : Own B w0 w l) (ho : ops[i]? = some o) (hw : Region.wanted o (yielded ops a.tmps) = true) (h : ∀ w2, Own B w0 w2 l → ∀ K : Act → World → Prop, (∀ a w', wpTreeA P ops Q B w0 lf t a w' → K a w') → o.wp P a w2 K Q) :
  wpTreeA P ops Q B w0 lf (.e i t) a w := by
 intro w2 hx
 show wpOp P ops Q i _ a w2
 unfold wpOp
 simp only [ho, hw, if_true]
 exact .inl (h w2 (H.ext hx) _ fun a w' h2 => ⟨.inl hc, h2⟩)
theorem treeA_one_skip (hS : ∀ w2, Ext w w2 → Keeps B w0 lf w2) (ho : ops[i]? = some o) (hw : Region.wanted o (yielded ops a.tmps) = false) (h : ∀ w2, Ext w w2 → wpTreeA P ops Q B w0 lf t (a.put o.dst undef) w2) : wpTreeA P ops Q B w0 lf (.e i t) a w := by
 intro w2 hx
 show wpOp P ops Q i _ a w2
 unfold wpOp
 simp only [ho, hw, Bool.false_eq_true, if_false]
 exact ⟨.inr (hS w2 hx), h w2 hx⟩
theorem treeA_both (h1 : wpTreeA P ops Q B w0 lf s a w) (h2 : wpTreeA P ops Q B w0 lf t a w) : wpTreeA P ops Q B w0 lf (.both s t) a w := ⟨h1, h2⟩
theorem treeA_nil (H : Own B w0 w l) (h : ∀ w', Own B w0 w' l → Q .normal a w') : wpTreeA P ops Q B w0 lf .nil a w := fun w' hx => h w' (H.ext hx)
theorem treeA_add {R : List Nat} (L : List Adder) (H : Own B w0 w l) (hs : Suf lf l) (hL : L.map Adder.idx = R) (hA : ∀ x ∈ L, ops[x.i]? = some x.o ∧ Adds P ops B w0 lf x.o x.A a) (hap : L.Pairwise (apart2 ops))
  (h : ∀ vr, GoodL L vr → ∀ w', Own B w0 w' (vr.map (·.2) ++ l) → wpTreeA P ops Q B w0 lf t (putAll a L vr) w') : wpTreeA P ops Q B w0 lf (.add R t) a w := ⟨l, L, H, hs, hL, hA, hap, h⟩
theorem adds_of {A : AnsA} (hw : Region.wanted o (yielded ops a.tmps) = true) (h : ∀ w' l, Own B w0 w' l → Suf lf l → ∀ K : Act → World → Prop, (∀ v r w2, A v r → Own B w0 w2 (r :: l) → K (a.put o.dst v) w2) → o.wp P a w' K noQ) : Adds P ops B w0 lf o A a :=
 ⟨hw, fun w' l H hs => h w' l H hs _ fun v r w2 h1 h2 => ⟨v, r, h1, rfl, h2⟩⟩
end
def AllA : List AnsA → (List (Value × Res) → Prop) → Prop
 | [], K => K []
 | A :: As, K => ∀ v r, A v r → AllA As fun L => K ((v, r) :: L)
def putR (ops : Array Oper) : Act → List Nat → List (Value × Res) → Act
 | a, i :: R, p :: L => putR ops (a.put (ops[i]?.bind Oper.dst) p.1) R L
 | a, _, _ => a
def AllOps (P : Program) (ops : Array Oper) (B : Nat) (w0 : World) (lf : List Res) (a : Act) : List Nat → List AnsA → Prop
 | i :: R, A :: As => (∃ o, ops[i]? = some o ∧ Adds P ops B w0 lf o A a) ∧ AllOps P ops B w0 lf a R As
 | [], [] => True
 | _, _ => False
def apartO (ops : Array Oper) (i j : Nat) : Bool :=
 match ops[i]?, ops[j]? with
 | some x, some y => x.apart ops y && y.apart ops x
 | _, _ => false
def apartR (ops : Array Oper) : List Nat → Bool
 | i :: R => R.all (apartO ops i) && apartR ops R
 | [] => true
theorem adders_of {a : Act} : ∀ (R : List Nat) (As : List AnsA), AllOps P ops B w0 lf a R As → apartR ops R = true → ∃ L : List Adder, L.map Adder.idx = R ∧ L.map Adder.A = As ∧ (∀ x ∈ L, ops[x.i]? = some x.o ∧ Adds P ops B w0 lf x.o x.A a) ∧ L.Pairwise (apart2 ops)
 | [], [], _, _ => ⟨[], rfl, rfl, by simp, .nil⟩
 | [], _ :: _, h, _ => h.elim
 | _ :: _, [], h, _ => h.elim
 | i :: R, A :: As, ⟨⟨o, ho, hA⟩, h⟩, hap => by
  simp only [apartR, Bool.and_eq_true] at hap
  obtain ⟨L, h1, h2, h3, h4⟩ := adders_of R As h hap.2
  refine ⟨⟨i, o, A⟩ :: L, by simp [h1, Adder.idx], by simp [h2], List.forall_mem_cons.2 ⟨⟨ho, hA⟩, h3⟩, .cons (fun y hy => ?_) h4⟩
  have hyR : y.i ∈ R := by rw [← h1]; exact List.mem_map.2 ⟨y, hy, rfl⟩
  have := List.all_eq_true.1 hap.1 _ hyR
  unfold apartO at this
  rw [ho, (h3 y hy).1] at this
  simp only [Bool.and_eq_true] at this
  exact ⟨this.1, this.2⟩
theorem allA_good : ∀ (L : List Adder) (K : List (Value × Res) → Prop), AllA (L.map Adder.A) K → ∀ vr, GoodL L vr → K vr
 | [], _, h, [], _ => h
 | [], _, _, _ :: _, g => g.elim
 | _ :: _, _, _, [], g => g.elim
 | x :: L, K, h, p :: vr, g => allA_good L (fun l => K (p :: l)) (h p.1 p.2 g.1) vr g.2
theorem putAll_R : ∀ (L : List Adder) (vr : List (Value × Res)) (a : Act), (∀ x ∈ L, ops[x.i]? = some x.o) → putAll a L vr = putR ops a (L.map Adder.idx) vr
 | [], [], _, _ => rfl
 | [], _ :: _, _, _ => rfl
 | _ :: _, [], _, _ => rfl
 | x :: L, p :: vr, a, h => by
  simp only [List.map_cons, putAll, putR]
  rw [show Adder.idx x = x.i from rfl, h x (by simp)]
  exact putAll_R L vr _ fun y hy => h y (List.mem_cons_of_mem _ hy)
theorem treeA_adds {t : TrA} {a : Act} {w : World} {l : List Res} {R : List Nat} (As : List AnsA) (H : Own B w0 w l) (hs : Suf lf l) (hap : apartR ops R = true) (hA : AllOps P ops B w0 lf a R As)
  (h : AllA As fun vr => ∀ w', Own B w0 w' (vr.map (·.2) ++ l) → wpTreeA P ops Q B w0 lf t (putR ops a R vr) w') : wpTreeA P ops Q B w0 lf (.add R t) a w := by
 obtain ⟨L, h1, h2, h3, h4⟩ := adders_of R As hA hap
 refine treeA_add L H hs h1 h3 h4 fun vr hg w' H' => ?_
 rw [putAll_R L vr a fun x hx => (h3 x hx).1, h1]
 rw [← h2] at h
 exact allA_good L _ h vr hg w' H'
structure Stopped (p : Prop) : Prop where
 out : p
def NewA (row : List Value) : AnsA := fun v r => ∃ b, v = .pointer (some ⟨b, 0, none⟩) ∧ r = .cells b row
theorem r18 {r r' x0 x1 x2 x3 x4 x5 x6 x7 x8 x9 x10 x11 x12 x13 x14 x15 x16 x17 : Res} {l : List Res} : Rep r r' (x0 :: x1 :: x2 :: x3 :: x4 :: x5 :: x6 :: x7 :: x8 :: x9 :: x10 :: x11 :: x12 :: x13 :: x14 :: x15 :: x16 :: x17 :: r :: l) (x0 :: x1 :: x2 :: x3 :: x4 :: x5 :: x6 :: x7 :: x8 :: x9 :: x10 :: x11 :: x12 :: x13 :: x14 :: x15 :: x16 :: x17 :: r' :: l) := .there (.there (.there (.there (.there (.there (.there (.there (.there (.there (.there (.there (.there (.there (.there (.there (.there (.there (.here))))))))))))))))))
theorem r19 {r r' x0 x1 x2 x3 x4 x5 x6 x7 x8 x9 x10 x11 x12 x13 x14 x15 x16 x17 x18 : Res} {l : List Res} : Rep r r' (x0 :: x1 :: x2 :: x3 :: x4 :: x5 :: x6 :: x7 :: x8 :: x9 :: x10 :: x11 :: x12 :: x13 :: x14 :: x15 :: x16 :: x17 :: x18 :: r :: l) (x0 :: x1 :: x2 :: x3 :: x4 :: x5 :: x6 :: x7 :: x8 :: x9 :: x10 :: x11 :: x12 :: x13 :: x14 :: x15 :: x16 :: x17 :: x18 :: r' :: l) := .there (.there (.there (.there (.there (.there (.there (.there (.there (.there (.there (.there (.there (.there (.there (.there (.there (.there (.there (.here)))))))))))))))))))
theorem r20 {r r' x0 x1 x2 x3 x4 x5 x6 x7 x8 x9 x10 x11 x12 x13 x14 x15 x16 x17 x18 x19 : Res} {l : List Res} : Rep r r' (x0 :: x1 :: x2 :: x3 :: x4 :: x5 :: x6 :: x7 :: x8 :: x9 :: x10 :: x11 :: x12 :: x13 :: x14 :: x15 :: x16 :: x17 :: x18 :: x19 :: r :: l) (x0 :: x1 :: x2 :: x3 :: x4 :: x5 :: x6 :: x7 :: x8 :: x9 :: x10 :: x11 :: x12 :: x13 :: x14 :: x15 :: x16 :: x17 :: x18 :: x19 :: r' :: l) := .there (.there (.there (.there (.there (.there (.there (.there (.there (.there (.there (.there (.there (.there (.there (.there (.there (.there (.there (.there (.here))))))))))))))))))))
theorem r21 {r r' x0 x1 x2 x3 x4 x5 x6 x7 x8 x9 x10 x11 x12 x13 x14 x15 x16 x17 x18 x19 x20 : Res} {l : List Res} : Rep r r' (x0 :: x1 :: x2 :: x3 :: x4 :: x5 :: x6 :: x7 :: x8 :: x9 :: x10 :: x11 :: x12 :: x13 :: x14 :: x15 :: x16 :: x17 :: x18 :: x19 :: x20 :: r :: l) (x0 :: x1 :: x2 :: x3 :: x4 :: x5 :: x6 :: x7 :: x8 :: x9 :: x10 :: x11 :: x12 :: x13 :: x14 :: x15 :: x16 :: x17 :: x18 :: x19 :: x20 :: r' :: l) := .there (.there (.there (.there (.there (.there (.there (.there (.there (.there (.there (.there (.there (.there (.there (.there (.there (.there (.there (.there (.there (.here)))))))))))))))))))))
theorem r22 {r r' x0 x1 x2 x3 x4 x5 x6 x7 x8 x9 x10 x11 x12 x13 x14 x15 x16 x17 x18 x19 x20 x21 : Res} {l : List Res} : Rep r r' (x0 :: x1 :: x2 :: x3 :: x4 :: x5 :: x6 :: x7 :: x8 :: x9 :: x10 :: x11 :: x12 :: x13 :: x14 :: x15 :: x16 :: x17 :: x18 :: x19 :: x20 :: x21 :: r :: l) (x0 :: x1 :: x2 :: x3 :: x4 :: x5 :: x6 :: x7 :: x8 :: x9 :: x10 :: x11 :: x12 :: x13 :: x14 :: x15 :: x16 :: x17 :: x18 :: x19 :: x20 :: x21 :: r' :: l) := .there (.there (.there (.there (.there (.there (.there (.there (.there (.there (.there (.there (.there (.there (.there (.there (.there (.there (.there (.there (.there (.there (.here))))))))))))))))))))))
theorem r23 {r r' x0 x1 x2 x3 x4 x5 x6 x7 x8 x9 x10 x11 x12 x13 x14 x15 x16 x17 x18 x19 x20 x21 x22 : Res} {l : List Res} : Rep r r' (x0 :: x1 :: x2 :: x3 :: x4 :: x5 :: x6 :: x7 :: x8 :: x9 :: x10 :: x11 :: x12 :: x13 :: x14 :: x15 :: x16 :: x17 :: x18 :: x19 :: x20 :: x21 :: x22 :: r :: l) (x0 :: x1 :: x2 :: x3 :: x4 :: x5 :: x6 :: x7 :: x8 :: x9 :: x10 :: x11 :: x12 :: x13 :: x14 :: x15 :: x16 :: x17 :: x18 :: x19 :: x20 :: x21 :: x22 :: r' :: l) := .there (.there (.there (.there (.there (.there (.there (.there (.there (.there (.there (.there (.there (.there (.there (.there (.there (.there (.there (.there (.there (.there (.there (.here)))))))))))))))))))))))
theorem newA_mk {b : Nat} {row : List Value} : NewA row (.pointer (some ⟨b, 0, none⟩)) (.cells b row) := ⟨b, rfl, rfl⟩
end Go.Proofs.YtlhmjhildlnokaaGreat
namespace Go.Proofs.YtlhmjhildlnokaaGreat
set_option linter.unusedVariables false
set_option linter.unusedSimpArgs false
open Go.RowKit
theorem ref04bx1 {P Q : Prop} (k : Q) (h : Hold Q → P := by (intro kk; guard_target = wpList _ _ _ (Oper.mk _ (.build _ _) _ _ _ _ :: _) _ _; (with_reducible refine BigFrame.wpList_want ?_ (fun K hK => ?_)); exact rfl; (first | (refine o_build (v := ?_) (ps := ?_) rfl ?_ ?_ (hK _ _ ?_); rotate_left 2; (focus (simp [Act.eval]; with_reducible exact rfl)); (focus (intro w4; with_reducible exact build_q _ _ w4))) | (refine o_build (v := ?_) (ps := ?_) rfl ?_ ?_ (hK _ _ ?_); rotate_left 2; (focus (simp [Act.eval]; with_reducible exact rfl)); (focus (intro w4; with_reducible exact build_q0 w4)))); clear hK K; simp only [Act.put, List.setIfInBounds_toArray, List.set_cons_succ, List.set_cons_zero, cells_iV, iL_length, setL_i, setL_ii, agg_iL, cells_rV, rL_length, setL_r, setL_rr, agg_rL]; exact kk.out)) : P := h ⟨k⟩
theorem ref04bg2 {P Q : Prop} (k : Q) (h : Hold Q → P := by (intro kk; (first | (guard_target = wpList _ _ _ (Oper.mk _ (.load _ _) _ _ _ _ :: _) _ _; exact a3e9400a kk.out) | (guard_target = wpList _ _ _ (Oper.mk _ (.build _ _) _ _ _ _ :: _) _ _; exact ref04bx1 kk.out)))) : P := h ⟨k⟩
theorem rat2_ref : Rat2 106 104 := ⟨by kernel_rfl, by kernel_rfl, by kernel_rfl, fun w => by kernel_rfl, fun w => by kernel_rfl, fun w => by kernel_rfl⟩
theorem build_q (n d : Int) (w : World) : (Instr.build 106 #[(0, iV n), (1, iV d)]).run Tryz.prog w = .ok (rV n d) w := by
  have hz : ∀ w, (zeroValue 106).run Tryz.prog w = .ok (rV 0 0) w := fun w => by rw [rV_zero]; kernel_rfl
  have hm : ∀ w, ((Tryz.prog.fieldsOf 106).mapM fun f => do pure (f.offset, ← sizeOf f.type) : Sem _).run Tryz.prog w = .ok #[(0, 4), (4, 4)] w := fun w => by kernel_rfl
  unfold Instr.build
  simp only [Sem.run_bind, hz, Result.andThen_ok, run_underlying rat2_ref.und, hm]
  have h := fill_two (.int .u64 (n % 18446744073709551616)) (.int .u64 (n / 18446744073709551616 % 18446744073709551616)) (.int .u64 (n / 340282366920938463463374607431768211456 % 18446744073709551616)) (.int .u64 (n / 6277101735386680763835789423207666416102355444464034512896 % 18446744073709551616))
    (.int .u64 (d % 18446744073709551616)) (.int .u64 (d / 18446744073709551616 % 18446744073709551616)) (.int .u64 (d / 340282366920938463463374607431768211456 % 18446744073709551616)) (.int .u64 (d / 6277101735386680763835789423207666416102355444464034512896 % 18446744073709551616)) (.int .u64 0) (.int .u64 0) (.int .u64 0) (.int .u64 0) (.int .u64 0) (.int .u64 0) (.int .u64 0) (.int .u64 0)
  rw [rV_zero]
  unfold iV
  simp only [Value.cells, h, Array.toList]
  rfl
theorem build_q0 (w : World) : (Instr.build 106 #[]).run Tryz.prog w = .ok (rV 0 0) w := by
  rw [rV_zero]; kernel_rfl
theorem neg_of_sign {x y : Int} (h : signZ x = signZ y) : decide (x < 0) = decide (y < 0) := by
  unfold signZ at h
  by_cases hx : x < 0 <;> by_cases hy : y < 0 <;> simp only [hx, hy, if_true, if_false, decide_true, decide_false] at h ⊢ <;> (split at h <;> omega)
theorem gcd_wide {n d : Int} (hn : R256 n) (hd : R256 d) (z : Nat) (ez : gcdZ n d = (z : Int)) : R512 (z : Int) := by
  rw [← ez]
  unfold R512 gcdZ
  rw [Int.natAbs_natCast]
  by_cases h : n = 0
  · subst h
    rw [Int.gcd_zero_left]
    have := abs256 hd
    omega
  · have h1 : Int.gcd n d ≤ n.natAbs := Nat.le_of_dvd (Int.natAbs_pos.mpr h) (Nat.gcd_dvd_left _ _)
    have := abs256 hn
    omega
theorem tdiv_512 {x y : Int} (hx : R256 x) : R512 (x.tdiv y) := by
  have h1 := abs256 hx
  have h2 : (x.tdiv y).natAbs ≤ x.natAbs := by rw [Int.natAbs_tdiv]; exact Nat.div_le_self _ _
  unfold R512
  omega
set_option maxRecDepth 100000 in
set_option maxHeartbeats 16000000 in
theorem refMade_any (F : Nat → Prop) (w : World) (hF : ∀ k, F k → k < w.heap.size) (A1 A2 : Option Addr) (c1 c2 : Nat) (a b : List Nat) (n d : Int) (hn : R256 n) (hd : R256 d) (h0 : d ≠ 0) (ha : Sl F w A1 (dl a)) (hb : Sl F w A2 (dl b)) (ga : CnI a n) (gb : CnI b d)
    (ma : a.length ≤ c1) (mb : b.length ≤ c2) (ma2 : c1 ≤ maxLen) (mb2 : c2 ≤ maxLen) :
    Calls Tryz.prog 80 #[.agg #[.bool (decide (n < 0)), .slice A1 a.length c1], .agg #[.bool (decide (d < 0)), .slice A2 b.length c2]] w fun e w' => e = .returned (.tuple #[mkV n d, .int .i64 (mkE n d)]) ∧ Below w.heap.size w w' := by
  obtain ⟨b2, o2, H2, f2⟩ := (Own.start w).addSl (hb.ro (by rfl))
  obtain ⟨b1, o1, H, f1⟩ := H2.addSl (ha.ro (by rfl))
  clear ha hb H2
  obtain ⟨z, hz⟩ : ∃ z : Nat, Nat.gcd n.natAbs d.natAbs = z := ⟨_, rfl⟩
  have ez : gcdZ n d = (z : Int) := congrArg _ hz
  have zp := gcd_pos (n := n) h0
  rw [ez] at zp
  have wz := gcd_wide hn hd z ez
  have hG := fun F w hF A1 A2 k1 k2 a b ha hb ga gb => refGcd_any F w hF A1 A2 k1 k2 a b n d (decide (n < 0)) (decide (d < 0)) ha hb ga gb (fit450 hn ga) (fit450 hd gb)
  rw [hz] at hG
  have hWg := fun F w hF A c l ha g => refWords_any F w hF A c l (z : Int) ha g (fit1000 wz g)
  have hDn := fun F w hF A1 A2 k1 k2 a b ha hb ga gb ma mb ma2 mb2 => refDiv_any F w hF A1 A2 k1 k2 a b n (z : Int) ha hb ga gb (fit450 hn ga) (Nat.le_trans (fit32 wz gb) (by decide)) ma mb ma2 mb2 (by omega)
  have hDd := fun F w hF A1 A2 k1 k2 a b ha hb ga gb ma mb ma2 mb2 => refDiv_any F w hF A1 A2 k1 k2 a b d (z : Int) ha hb ga gb (fit450 hd ga) (Nat.le_trans (fit32 wz gb) (by decide)) ma mb ma2 mb2 (by omega)
  rw [natneg] at hWg hDn hDd
  have hNp := fun F w hF A c l ha g => refNeg_any F w hF A c l (n.tdiv z) ha g (fit1000 (tdiv_512 hn) g)
  have hNq := fun F w hF A c l ha g => refNeg_any F w hF A c l (d.tdiv z) ha g (fit1000 (tdiv_512 hd) g)
  have hsg := sign_tdiv (n := n) h0
  rw [ez] at hsg
  have fin : ∀ N D : Int, mkN n d = N → mkD n d = D → ∃ v1 v2 v3, decide (R256 (z : Int)) = v1 ∧ decide (R256 N) = v2 ∧ decide (R256 D) = v3 ∧
      ((v1 = true ∧ v2 = true ∧ v3 = true ∧ mkE n d = 0 ∧ mkV n d = rV N D ∧ fitZ N = N ∧ fitZ D = D) ∨ ((v1 = false ∨ (v1 = true ∧ v2 = false) ∨ (v1 = true ∧ v2 = true ∧ v3 = false)) ∧ mkE n d = 3 ∧ mkV n d = rV 0 0)) := by
    intro N D e1 e2
    refine ⟨_, _, _, rfl, rfl, rfl, ?_⟩
    unfold mkV mkE
    rw [if_neg h0, e1, e2, ez]
    by_cases k1 : R256 (z : Int) <;> by_cases k2 : R256 N <;> by_cases k3 : R256 D <;> simp [k1, k2, k3, fitZ]
  rcases Int.lt_trichotomy d 0 with h | h | h
  · obtain ⟨v1, v2, v3, e1, e2, e3, hv⟩ := fin (-(n.tdiv z)) (-(d.tdiv z)) (by unfold mkN; rw [if_pos h, ez]) (by unfold mkD; rw [if_pos h, ez])
    have hq : decide (d.tdiv z < 0) = true := by
      rw [neg_of_sign hsg]; simpa using h
    have hWN := fun F w hF A c l ha g => refWords_any F w hF A c l (-(n.tdiv z)) ha g (fit1000 (wide_neg (tdiv_512 hn)) g)
    have hWD := fun F w hF A c l ha g => refWords_any F w hF A c l (-(d.tdiv z)) ha g (fit1000 (wide_neg (tdiv_512 hd)) g)
    unfold RetN2 at hDd
    rw [hq] at hDd hNq
    rw [e1] at hWg
    rw [e2] at hWN
    rw [e3] at hWD
    clear fin hsg e1 e2 e3 h h0 hq zp wz ez hz
    generalize -(n.tdiv z) = N at *
    generalize -(d.tdiv z) = D at *
    rcases hv with ⟨rfl, rfl, rfl, hE, hV, eN, eD⟩ | ⟨hv, hE, hV⟩
    · rw [hE, hV]
      rw [eN] at hWN
      rw [eD] at hWD
      clear hE hV eN eD
      go_enter Tryz.func80, Tryz.ntmps80
      have tk0 : True := trivial
      have tk1 : True := trivial
      have tk2 : True := trivial
      have tk3 : True := trivial
      have tk4 : True := trivial
      have tk5 : True := trivial
      have tk6 : True := trivial
      go_wp2_with (first
        | (guard_target = bodyPost _ _ _ _ _ _; refine Stopped.out ?_)
        | (go_at_call 83; (with_reducible refine (hG (FW F _) _ (H.fw_lt rfl hF) _ _ _ _ a b (aD f1) (aD f2) ga gb ma mb ma2 mb2).mono ?_); rintro e w3 ⟨A5, k5, l5, rfl, hb, s5, g5, q5, p5⟩; replace H := H.ext hb; clear hb; obtain ⟨b5, o5, H4, f5⟩ := H.addSl s5; clear H s5; have H := H4; clear H4; dsimp only)
        | (go_at_call 81; (with_reducible refine (hWg (FW F _) _ (H.fw_lt rfl hF) _ _ l5 (aD f5) g5 q5 p5).mono ?_); rintro e w3 ⟨rfl, hb⟩; replace H := H.ext hb; clear hb; dsimp only)
        | (go_at_call 103; (with_reducible refine (hDn (FW F _) _ (H.fw_lt rfl hF) _ _ _ _ a l5 (aD f1) (aD f5) ga g5 ma q5 ma2 p5).mono ?_); rintro e w3 ⟨A6, k6, l6, A7, k7, l7, rfl, hb, s6, g6, q6, p6, _, _, _, _⟩; replace H := H.ext hb; clear hb; obtain ⟨b6, o6, H4, f6⟩ := H.addSl s6; clear H s6; have H := H4; clear H4; dsimp only)
        | (go_at_call 103; (with_reducible refine (hDd (FW F _) _ (H.fw_lt rfl hF) _ _ _ _ b l5 (aD f2) (aD f5) gb g5 mb q5 mb2 p5).mono ?_); rintro e w3 ⟨A8, k8, l8, A9, k9, l9, rfl, hb, s8, g8, q8, p8, _, _, _, _⟩; replace H := H.ext hb; clear hb; obtain ⟨b8, o8, H4, f8⟩ := H.addSl s8; clear H s8; have H := H4; clear H4; dsimp only)
        | (go_at_call 86; (with_reducible refine (hNp (FW F _) _ (H.fw_lt rfl hF) _ _ l6 (aD f6) g6 q6 p6).mono ?_); rintro e w3 ⟨A10, k10, l10, rfl, hb, s10, g10, q10, p10⟩; replace H := H.ext hb; clear hb; obtain ⟨b10, o10, H4, f10⟩ := H.addSl s10; clear H s10; have H := H4; clear H4; dsimp only)
        | (go_at_call 86; (with_reducible refine (hNq (FW F _) _ (H.fw_lt rfl hF) _ _ l8 (aD f8) g8 q8 p8).mono ?_); rintro e w3 ⟨A11, k11, l11, rfl, hb, s11, g11, q11, p11⟩; replace H := H.ext hb; clear hb; obtain ⟨b11, o11, H4, f11⟩ := H.addSl s11; clear H s11; have H := H4; clear H4; dsimp only)
        | (go_at_call 81; (with_reducible refine (hWN (FW F _) _ (H.fw_lt rfl hF) _ _ l10 (aD f10) g10 q10 p10).mono ?_); rintro e w3 ⟨rfl, hb⟩; replace H := H.ext hb; clear hb; dsimp only)
        | (go_at_call 81; (with_reducible refine (hWD (FW F _) _ (H.fw_lt rfl hF) _ _ l11 (aD f11) g11 q11 p11).mono ?_); rintro e w3 ⟨rfl, hb⟩; replace H := H.ext hb; clear hb; dsimp only)
        | (guard_target = wpList _ _ _ (_ :: _) _ _; (first | (refine ref04bg2 ?_) | (refine ae4234ec ?_; clear H; (try clear w2); intro w2 H) | (refine a9e98dd6 ?_; intro b2; clear H; (try clear w2); intro w2 H; (first | (clear tk0; rename Nat => c1) | (clear tk1; rename Nat => c2) | (clear tk2; rename Nat => c3) | (clear tk3; rename Nat => c4) | (clear tk4; rename Nat => c5) | (clear tk5; rename Nat => c6) | (clear tk6; rename Nat => c7))))))
      have hr := H.loadVarN (P := Tryz.prog) (ty := 106) (b := c3) (row := rL N D) (by simp) (by simp) (by simp [rL_length])
      exact ⟨bodyPost_ret (v := .tuple #[rV N D, .int .i64 0]) (by simp [results, Tryz.results80, asAddr, hr, agg_rL]) rfl ⟨rfl, H.below⟩⟩
    · rw [hE, hV]
      clear hE hV
      rcases hv with rfl | ⟨rfl, rfl⟩ | ⟨rfl, rfl, rfl⟩
      all_goals
       go_enter Tryz.func80, Tryz.ntmps80
       have tk0 : True := trivial
       have tk1 : True := trivial
       have tk2 : True := trivial
       have tk3 : True := trivial
       have tk4 : True := trivial
       have tk5 : True := trivial
       have tk6 : True := trivial
       go_wp2_with (first
         | (guard_target = bodyPost _ _ _ _ _ _; refine Stopped.out ?_)
         | (go_at_call 83; (with_reducible refine (hG (FW F _) _ (H.fw_lt rfl hF) _ _ _ _ a b (aD f1) (aD f2) ga gb ma mb ma2 mb2).mono ?_); rintro e w3 ⟨A5, k5, l5, rfl, hb, s5, g5, q5, p5⟩; replace H := H.ext hb; clear hb; obtain ⟨b5, o5, H4, f5⟩ := H.addSl s5; clear H s5; have H := H4; clear H4; dsimp only)
         | (go_at_call 81; (with_reducible refine (hWg (FW F _) _ (H.fw_lt rfl hF) _ _ l5 (aD f5) g5 q5 p5).mono ?_); rintro e w3 ⟨rfl, hb⟩; replace H := H.ext hb; clear hb; dsimp only)
         | (go_at_call 103; (with_reducible refine (hDn (FW F _) _ (H.fw_lt rfl hF) _ _ _ _ a l5 (aD f1) (aD f5) ga g5 ma q5 ma2 p5).mono ?_); rintro e w3 ⟨A6, k6, l6, A7, k7, l7, rfl, hb, s6, g6, q6, p6, _, _, _, _⟩; replace H := H.ext hb; clear hb; obtain ⟨b6, o6, H4, f6⟩ := H.addSl s6; clear H s6; have H := H4; clear H4; dsimp only)
         | (go_at_call 103; (with_reducible refine (hDd (FW F _) _ (H.fw_lt rfl hF) _ _ _ _ b l5 (aD f2) (aD f5) gb g5 mb q5 mb2 p5).mono ?_); rintro e w3 ⟨A8, k8, l8, A9, k9, l9, rfl, hb, s8, g8, q8, p8, _, _, _, _⟩; replace H := H.ext hb; clear hb; obtain ⟨b8, o8, H4, f8⟩ := H.addSl s8; clear H s8; have H := H4; clear H4; dsimp only)
         | (go_at_call 86; (with_reducible refine (hNp (FW F _) _ (H.fw_lt rfl hF) _ _ l6 (aD f6) g6 q6 p6).mono ?_); rintro e w3 ⟨A10, k10, l10, rfl, hb, s10, g10, q10, p10⟩; replace H := H.ext hb; clear hb; obtain ⟨b10, o10, H4, f10⟩ := H.addSl s10; clear H s10; have H := H4; clear H4; dsimp only)
         | (go_at_call 86; (with_reducible refine (hNq (FW F _) _ (H.fw_lt rfl hF) _ _ l8 (aD f8) g8 q8 p8).mono ?_); rintro e w3 ⟨A11, k11, l11, rfl, hb, s11, g11, q11, p11⟩; replace H := H.ext hb; clear hb; obtain ⟨b11, o11, H4, f11⟩ := H.addSl s11; clear H s11; have H := H4; clear H4; dsimp only)
         | (go_at_call 81; (with_reducible refine (hWN (FW F _) _ (H.fw_lt rfl hF) _ _ l10 (aD f10) g10 q10 p10).mono ?_); rintro e w3 ⟨rfl, hb⟩; replace H := H.ext hb; clear hb; dsimp only)
         | (go_at_call 81; (with_reducible refine (hWD (FW F _) _ (H.fw_lt rfl hF) _ _ l11 (aD f11) g11 q11 p11).mono ?_); rintro e w3 ⟨rfl, hb⟩; replace H := H.ext hb; clear hb; dsimp only)
         | (guard_target = wpList _ _ _ (_ :: _) _ _; (first | (refine ref04bg2 ?_) | (refine ae4234ec ?_; clear H; (try clear w2); intro w2 H) | (refine a9e98dd6 ?_; intro b2; clear H; (try clear w2); intro w2 H; (first | (clear tk0; rename Nat => c1) | (clear tk1; rename Nat => c2) | (clear tk2; rename Nat => c3) | (clear tk3; rename Nat => c4) | (clear tk4; rename Nat => c5) | (clear tk5; rename Nat => c6) | (clear tk6; rename Nat => c7))))))
       have hr := H.loadVarN (P := Tryz.prog) (ty := 106) (b := c3) (row := rL 0 0) (by simp) (by simp) (by simp [rL_length])
       exact ⟨bodyPost_ret (v := .tuple #[rV 0 0, .int .i64 3]) (by simp [results, Tryz.results80, asAddr, hr, agg_rL]) rfl ⟨rfl, H.below⟩⟩
  · exact absurd h h0
  · obtain ⟨v1, v2, v3, e1, e2, e3, hv⟩ := fin (n.tdiv z) (d.tdiv z) (by unfold mkN; rw [if_neg (by omega), ez]) (by unfold mkD; rw [if_neg (by omega), ez])
    have hq : decide (d.tdiv z < 0) = false := by
      rw [neg_of_sign hsg]; simp; omega
    have hWN := fun F w hF A c l ha g => refWords_any F w hF A c l (n.tdiv z) ha g (fit1000 (tdiv_512 hn) g)
    have hWD := fun F w hF A c l ha g => refWords_any F w hF A c l (d.tdiv z) ha g (fit1000 (tdiv_512 hd) g)
    unfold RetN2 at hDd
    rw [hq] at hDd hWD
    rw [e1] at hWg
    rw [e2] at hWN
    rw [e3] at hWD
    clear fin hsg e1 e2 e3 h h0 hq zp wz ez hz hNp hNq
    generalize n.tdiv z = N at *
    generalize d.tdiv z = D at *
    rcases hv with ⟨rfl, rfl, rfl, hE, hV, eN, eD⟩ | ⟨hv, hE, hV⟩
    · rw [hE, hV]
      rw [eN] at hWN
      rw [eD] at hWD
      clear hE hV eN eD
      go_enter Tryz.func80, Tryz.ntmps80
      have tk0 : True := trivial
      have tk1 : True := trivial
      have tk2 : True := trivial
      have tk3 : True := trivial
      have tk4 : True := trivial
      have tk5 : True := trivial
      have tk6 : True := trivial
      go_wp2_with (first
        | (guard_target = bodyPost _ _ _ _ _ _; refine Stopped.out ?_)
        | (go_at_call 83; (with_reducible refine (hG (FW F _) _ (H.fw_lt rfl hF) _ _ _ _ a b (aD f1) (aD f2) ga gb ma mb ma2 mb2).mono ?_); rintro e w3 ⟨A5, k5, l5, rfl, hb, s5, g5, q5, p5⟩; replace H := H.ext hb; clear hb; obtain ⟨b5, o5, H4, f5⟩ := H.addSl s5; clear H s5; have H := H4; clear H4; dsimp only)
        | (go_at_call 81; (with_reducible refine (hWg (FW F _) _ (H.fw_lt rfl hF) _ _ l5 (aD f5) g5 q5 p5).mono ?_); rintro e w3 ⟨rfl, hb⟩; replace H := H.ext hb; clear hb; dsimp only)
        | (go_at_call 103; (with_reducible refine (hDn (FW F _) _ (H.fw_lt rfl hF) _ _ _ _ a l5 (aD f1) (aD f5) ga g5 ma q5 ma2 p5).mono ?_); rintro e w3 ⟨A6, k6, l6, A7, k7, l7, rfl, hb, s6, g6, q6, p6, _, _, _, _⟩; replace H := H.ext hb; clear hb; obtain ⟨b6, o6, H4, f6⟩ := H.addSl s6; clear H s6; have H := H4; clear H4; dsimp only)
        | (go_at_call 103; (with_reducible refine (hDd (FW F _) _ (H.fw_lt rfl hF) _ _ _ _ b l5 (aD f2) (aD f5) gb g5 mb q5 mb2 p5).mono ?_); rintro e w3 ⟨A8, k8, l8, A9, k9, l9, rfl, hb, s8, g8, q8, p8, _, _, _, _⟩; replace H := H.ext hb; clear hb; obtain ⟨b8, o8, H4, f8⟩ := H.addSl s8; clear H s8; have H := H4; clear H4; dsimp only)
        | (go_at_call 81; (with_reducible refine (hWN (FW F _) _ (H.fw_lt rfl hF) _ _ l6 (aD f6) g6 q6 p6).mono ?_); rintro e w3 ⟨rfl, hb⟩; replace H := H.ext hb; clear hb; dsimp only)
        | (go_at_call 81; (with_reducible refine (hWD (FW F _) _ (H.fw_lt rfl hF) _ _ l8 (aD f8) g8 q8 p8).mono ?_); rintro e w3 ⟨rfl, hb⟩; replace H := H.ext hb; clear hb; dsimp only)
        | (guard_target = wpList _ _ _ (_ :: _) _ _; (first | (refine ref04bg2 ?_) | (refine ae4234ec ?_; clear H; (try clear w2); intro w2 H) | (refine a9e98dd6 ?_; intro b2; clear H; (try clear w2); intro w2 H; (first | (clear tk0; rename Nat => c1) | (clear tk1; rename Nat => c2) | (clear tk2; rename Nat => c3) | (clear tk3; rename Nat => c4) | (clear tk4; rename Nat => c5) | (clear tk5; rename Nat => c6) | (clear tk6; rename Nat => c7))))))
      have hr := H.loadVarN (P := Tryz.prog) (ty := 106) (b := c3) (row := rL N D) (by simp) (by simp) (by simp [rL_length])
      exact ⟨bodyPost_ret (v := .tuple #[rV N D, .int .i64 0]) (by simp [results, Tryz.results80, asAddr, hr, agg_rL]) rfl ⟨rfl, H.below⟩⟩
    · rw [hE, hV]
      clear hE hV
      rcases hv with rfl | ⟨rfl, rfl⟩ | ⟨rfl, rfl, rfl⟩
      all_goals
       go_enter Tryz.func80, Tryz.ntmps80
       have tk0 : True := trivial
       have tk1 : True := trivial
       have tk2 : True := trivial
       have tk3 : True := trivial
       have tk4 : True := trivial
       have tk5 : True := trivial
       have tk6 : True := trivial
       go_wp2_with (first
         | (guard_target = bodyPost _ _ _ _ _ _; refine Stopped.out ?_)
         | (go_at_call 83; (with_reducible refine (hG (FW F _) _ (H.fw_lt rfl hF) _ _ _ _ a b (aD f1) (aD f2) ga gb ma mb ma2 mb2).mono ?_); rintro e w3 ⟨A5, k5, l5, rfl, hb, s5, g5, q5, p5⟩; replace H := H.ext hb; clear hb; obtain ⟨b5, o5, H4, f5⟩ := H.addSl s5; clear H s5; have H := H4; clear H4; dsimp only)
         | (go_at_call 81; (with_reducible refine (hWg (FW F _) _ (H.fw_lt rfl hF) _ _ l5 (aD f5) g5 q5 p5).mono ?_); rintro e w3 ⟨rfl, hb⟩; replace H := H.ext hb; clear hb; dsimp only)
         | (go_at_call 103; (with_reducible refine (hDn (FW F _) _ (H.fw_lt rfl hF) _ _ _ _ a l5 (aD f1) (aD f5) ga g5 ma q5 ma2 p5).mono ?_); rintro e w3 ⟨A6, k6, l6, A7, k7, l7, rfl, hb, s6, g6, q6, p6, _, _, _, _⟩; replace H := H.ext hb; clear hb; obtain ⟨b6, o6, H4, f6⟩ := H.addSl s6; clear H s6; have H := H4; clear H4; dsimp only)
         | (go_at_call 103; (with_reducible refine (hDd (FW F _) _ (H.fw_lt rfl hF) _ _ _ _ b l5 (aD f2) (aD f5) gb g5 mb q5 mb2 p5).mono ?_); rintro e w3 ⟨A8, k8, l8, A9, k9, l9, rfl, hb, s8, g8, q8, p8, _, _, _, _⟩; replace H := H.ext hb; clear hb; obtain ⟨b8, o8, H4, f8⟩ := H.addSl s8; clear H s8; have H := H4; clear H4; dsimp only)
         | (go_at_call 81; (with_reducible refine (hWN (FW F _) _ (H.fw_lt rfl hF) _ _ l6 (aD f6) g6 q6 p6).mono ?_); rintro e w3 ⟨rfl, hb⟩; replace H := H.ext hb; clear hb; dsimp only)
         | (go_at_call 81; (with_reducible refine (hWD (FW F _) _ (H.fw_lt rfl hF) _ _ l8 (aD f8) g8 q8 p8).mono ?_); rintro e w3 ⟨rfl, hb⟩; replace H := H.ext hb; clear hb; dsimp only)
         | (guard_target = wpList _ _ _ (_ :: _) _ _; (first | (refine ref04bg2 ?_) | (refine ae4234ec ?_; clear H; (try clear w2); intro w2 H) | (refine a9e98dd6 ?_; intro b2; clear H; (try clear w2); intro w2 H; (first | (clear tk0; rename Nat => c1) | (clear tk1; rename Nat => c2) | (clear tk2; rename Nat => c3) | (clear tk3; rename Nat => c4) | (clear tk4; rename Nat => c5) | (clear tk5; rename Nat => c6) | (clear tk6; rename Nat => c7))))))
       have hr := H.loadVarN (P := Tryz.prog) (ty := 106) (b := c3) (row := rL 0 0) (by simp) (by simp) (by simp [rL_length])
       exact ⟨bodyPost_ret (v := .tuple #[rV 0 0, .int .i64 3]) (by simp [results, Tryz.results80, asAddr, hr, agg_rL]) rfl ⟨rfl, H.below⟩⟩
end Go.Proofs.YtlhmjhildlnokaaGreat
