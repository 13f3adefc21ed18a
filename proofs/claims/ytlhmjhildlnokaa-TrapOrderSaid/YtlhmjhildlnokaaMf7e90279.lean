/-
  Above the line the top goes on, below it the bottom: runs are trapezes.
-/
import Derived.Test.YtlhmjhildlnokaaM38b8c3cb
import Derived.Test.YtlhmjhildlnokaaGeo3
import Derived.Test.YtlhmjhildlnokaaTrap2
import Derived.Test.YtlhmjhildlnokaaTrap1
import Derived.Test.YtlhmjhildlnokaaTrap4
import Derived.Test.YtlhmjhildlnokaaSortK
import Derived.Test.YtlhmjhildlnokaaLayT
import Derived.Test.YtlhmjhildlnokaaTrap6p
import Derived.Test.YtlhmjhildlnokaaBase
import Derived.Laws.StructEq
import Derived.Test.YtlhmjhildlnokaaTrap5
import Derived.WalkMore
import Derived.Test.YtlhmjhildlnokaaTrap0
namespace Go.Proofs.Ytlhmjhildlnokaa
set_option linter.unusedVariables false
set_option linter.unusedSimpArgs false
open Go.RowKit Go.Sort Go.Shelf
variable {S : List (Int × Sg)} {N : List Nd} {P : List Pc} {id : Int} {s : Sg} {all : List Nat} {t : Tz}
/-! ### Above the line the top goes on, below it the bottom -/
/-- Near a wall, to its right and to its left. -/
theorem Cx.nearR (C : Cx S N P id s all) {k : Nat} (hk : k + 1 < all.length) {Q : Rat → Prop} (h : Nr (Xr (tK P all (k + 1)).l) Q) : ∃ x, Xr (tK P all (k + 1)).l < x ∧ (lnS s).spans x ∧ InX (tK P all (k + 1)) x ∧ Q x := by
  obtain ⟨l1, l2, l3, l4, l5, l6, _⟩ := C.link hk
  obtain ⟨x0, p0, q0⟩ := C.pass hk
  have i0 := in_iff.2 ⟨p0, q0.ix⟩
  rw [l6] at i0
  obtain ⟨x, h1, h2, h3⟩ := (h.and (Nr.lt (show Xr (tK P all (k + 1)).l < higR s (tK P all (k + 1)) by grind))).right
  obtain ⟨g1, g2⟩ := in_iff.1 ⟨by rw [l6]; exact h1, h3⟩
  exact ⟨x, h1, g1, g2, h2⟩
theorem Cx.nearL (C : Cx S N P id s all) {k : Nat} (hk : k + 1 < all.length) {Q : Rat → Prop} (h : Nr (Xr (tK P all (k + 1)).l) Q) : ∃ x, x < Xr (tK P all (k + 1)).l ∧ (lnS s).spans x ∧ InX (tK P all k) x ∧ Q x := by
  obtain ⟨l1, l2, l3, l4, l5, l6, l7⟩ := C.link hk
  obtain ⟨x0, p0, q0⟩ := C.pass (show k < all.length by omega)
  have i0 := in_iff.2 ⟨p0, q0.ix⟩
  rw [l7] at i0
  obtain ⟨x, h1, h2, h3⟩ := (h.and (Nr.gt (show lowR s (tK P all k) < Xr (tK P all (k + 1)).l by grind))).left
  obtain ⟨g1, g2⟩ := in_iff.1 ⟨h3, by rw [l7]; exact h1⟩
  exact ⟨x, h1, g1, g2, h2⟩
theorem Nr.span {u : Ln} {a : Rat} (h : u.spans a) : Nr a fun x => u.spans x := (Nr.gt h.1).and (Nr.lt h.2)
/-- A line above the new one, within a trapeze, isn't below its top. -/
theorem Cx.capT (C : Cx S N P id s all) {k : Nat} (hk : k < all.length) {x : Rat} (p : (lnS s).spans x) (i : InX (tK P all k) x) {q : Int × Sg} (hq : q ∈ S) (sp : (lnS q.2).spans x) (h : (lnS s).at x < (lnS q.2).at x) :
    (tK P all k).top ≠ 0 ∧ (topL S (tK P all k)).at x ≤ (lnS q.2).at x := by
  have w := C.within hk p i
  have f := (C.val hk).free q hq x sp
  have hb : (tK P all k).bot ≠ 0 → (botL S (tK P all k)).at x < (lnS q.2).at x := fun h0 => by have := w.lo h0; grind
  constructor
  · intro e
    exact f ⟨i, hb, fun h0 => absurd e h0⟩
  · by_cases g : (topL S (tK P all k)).at x ≤ (lnS q.2).at x
    · exact g
    · exact absurd ⟨i, hb, fun _ => by grind⟩ f
theorem Cx.capB (C : Cx S N P id s all) {k : Nat} (hk : k < all.length) {x : Rat} (p : (lnS s).spans x) (i : InX (tK P all k) x) {q : Int × Sg} (hq : q ∈ S) (sp : (lnS q.2).spans x) (h : (lnS q.2).at x < (lnS s).at x) :
    (tK P all k).bot ≠ 0 ∧ (lnS q.2).at x ≤ (botL S (tK P all k)).at x := by
  have w := C.within hk p i
  have f := (C.val hk).free q hq x sp
  have hb : (tK P all k).top ≠ 0 → (lnS q.2).at x < (topL S (tK P all k)).at x := fun h0 => by have := w.hi h0; grind
  constructor
  · intro e
    exact f ⟨i, fun h0 => absurd e h0, hb⟩
  · by_cases g : (lnS q.2).at x ≤ (botL S (tK P all k)).at x
    · exact g
    · exact absurd ⟨i, fun _ => by grind, hb⟩ f
theorem Cx.topSame (C : Cx S N P id s all) {k : Nat} (hk : k + 1 < all.length) (hu : upK P s all (k + 1) = false) : (tK P all (k + 1)).top = (tK P all k).top := by
  obtain ⟨w1, w2, w3, _⟩ := C.wall hk
  have hd : Yr (tK P all (k + 1)).l < (lnS s).at (Xr (tK P all (k + 1)).l) := by
    have : ¬ (lnS s).at (Xr (tK P all (k + 1)).l) < Yr (tK P all (k + 1)).l := fun h => by rw [w3.2 h] at hu; cases hu
    grind
  have near : ∀ j, (j = k ∨ j = k + 1) → (tK P all j).top ≠ 0 → Nr (Xr (tK P all (k + 1)).l) fun x => (topL S (tK P all j)).spans x ∧ (lnS s).at x < (topL S (tK P all j)).at x := fun j hj h => by
    obtain ⟨g1, g2⟩ := C.topGo hk hj hd h
    exact (Nr.span g1).and (Nr.below g2)
  have cap1 : (tK P all k).top ≠ 0 → (tK P all (k + 1)).top ≠ 0 := fun h => by
    obtain ⟨x, x1, x2, x3, x4, x5⟩ := C.nearR hk (near k (.inl rfl) h)
    exact (C.capT hk x2 x3 ((C.val (by omega)).top h).1 x4 x5).1
  have cap2 : (tK P all (k + 1)).top ≠ 0 → (tK P all k).top ≠ 0 := fun h => by
    obtain ⟨x, x1, x2, x3, x4, x5⟩ := C.nearL hk (near (k + 1) (.inr rfl) h)
    exact (C.capT (by omega) x2 x3 ((C.val hk).top h).1 x4 x5).1
  by_cases h : (tK P all k).top = 0
  · by_cases h' : (tK P all (k + 1)).top = 0
    · rw [h, h']
    · exact absurd h (cap2 h')
  · have h' := cap1 h
    have m1 := ((C.val (show k < all.length by omega)).top h).1
    have m2 := ((C.val hk).top h').1
    by_cases e : ((tK P all k).top, sgOf S (tK P all k).top) = ((tK P all (k + 1)).top, sgOf S (tK P all (k + 1)).top)
    · exact (congrArg Prod.fst e).symm
    exfalso
    have sep := C.ti.ok.sep _ m1 _ m2 e
    obtain ⟨x, x1, x2, x3, ⟨x4, x5⟩, x6, x7⟩ := C.nearR hk ((near k (.inl rfl) h).and (near (k + 1) (.inr rfl) h'))
    obtain ⟨y, y1, y2, y3, ⟨y4, y5⟩, y6, y7⟩ := C.nearL hk ((near k (.inl rfl) h).and (near (k + 1) (.inr rfl) h'))
    have c1 := (C.capT hk x2 x3 m1 x4 x5).2
    have c2 := (C.capT (show k < all.length by omega) y2 y3 m2 y6 y7).2
    have ne1 := sep x x4 x6
    have ne2 := sep y y4 y6
    have := sep.symm.keeps x6 x4 y6 y4 (by unfold topL at c1; simp only at ne1 c1 ⊢; grind)
    unfold topL at c2
    simp only at this ne2 c2
    grind
theorem Cx.botSame (C : Cx S N P id s all) {k : Nat} (hk : k + 1 < all.length) (hu : dnK P s all (k + 1) = false) : (tK P all (k + 1)).bot = (tK P all k).bot := by
  obtain ⟨w1, w2, _, w3⟩ := C.wall hk
  have hd : (lnS s).at (Xr (tK P all (k + 1)).l) < Yr (tK P all (k + 1)).l := by
    have : ¬ Yr (tK P all (k + 1)).l < (lnS s).at (Xr (tK P all (k + 1)).l) := fun h => by rw [w3.2 h] at hu; cases hu
    grind
  have near : ∀ j, (j = k ∨ j = k + 1) → (tK P all j).bot ≠ 0 → Nr (Xr (tK P all (k + 1)).l) fun x => (botL S (tK P all j)).spans x ∧ (botL S (tK P all j)).at x < (lnS s).at x := fun j hj h => by
    obtain ⟨g1, g2⟩ := C.botGo hk hj hd h
    exact (Nr.span g1).and (Nr.below g2)
  have cap1 : (tK P all k).bot ≠ 0 → (tK P all (k + 1)).bot ≠ 0 := fun h => by
    obtain ⟨x, x1, x2, x3, x4, x5⟩ := C.nearR hk (near k (.inl rfl) h)
    exact (C.capB hk x2 x3 ((C.val (by omega)).bot h).1 x4 x5).1
  have cap2 : (tK P all (k + 1)).bot ≠ 0 → (tK P all k).bot ≠ 0 := fun h => by
    obtain ⟨x, x1, x2, x3, x4, x5⟩ := C.nearL hk (near (k + 1) (.inr rfl) h)
    exact (C.capB (by omega) x2 x3 ((C.val hk).bot h).1 x4 x5).1
  by_cases h : (tK P all k).bot = 0
  · by_cases h' : (tK P all (k + 1)).bot = 0
    · rw [h, h']
    · exact absurd h (cap2 h')
  · have h' := cap1 h
    have m1 := ((C.val (show k < all.length by omega)).bot h).1
    have m2 := ((C.val hk).bot h').1
    by_cases e : ((tK P all k).bot, sgOf S (tK P all k).bot) = ((tK P all (k + 1)).bot, sgOf S (tK P all (k + 1)).bot)
    · exact (congrArg Prod.fst e).symm
    exfalso
    have sep := C.ti.ok.sep _ m1 _ m2 e
    obtain ⟨x, x1, x2, x3, ⟨x4, x5⟩, x6, x7⟩ := C.nearR hk ((near k (.inl rfl) h).and (near (k + 1) (.inr rfl) h'))
    obtain ⟨y, y1, y2, y3, ⟨y4, y5⟩, y6, y7⟩ := C.nearL hk ((near k (.inl rfl) h).and (near (k + 1) (.inr rfl) h'))
    have c1 := (C.capB hk x2 x3 m1 x4 x5).2
    have c2 := (C.capB (show k < all.length by omega) y2 y3 m2 y6 y7).2
    have ne1 := sep x x4 x6
    have ne2 := sep y y4 y6
    have := sep.keeps x4 x6 y4 y6 (by unfold botL at c1; simp only at ne1 c1 ⊢; grind)
    unfold botL at c2
    simp only at this ne2 c2
    grind
theorem runSame {f : Nat → Int} {g : Nat → Bool} {a : Nat} : ∀ {b}, a ≤ b → (∀ i, a < i → i ≤ b → g i = false) → (∀ k, a ≤ k → k + 1 ≤ b → g (k + 1) = false → f (k + 1) = f k) → f b = f a := by
  intro b
  induction b with
  | zero => intro h _ _; rw [show a = 0 by omega]
  | succ b ih =>
    intro h h1 h2
    by_cases e : a = b + 1
    · rw [e]
    · rw [h2 b (by omega) (by omega) (h1 (b + 1) (by omega) (by omega))]
      exact ih (by omega) (fun i p q => h1 i p (by omega)) (fun k p q => h2 k p (by omega))
theorem Cx.topRun (C : Cx S N P id s all) {a b : Nat} (h : RunK (upK P s all) all.length a b) {k : Nat} (h1 : a ≤ k) (h2 : k ≤ b) : (tK P all k).top = (tK P all a).top :=
  runSame (f := fun k => (tK P all k).top) (g := upK P s all) h1 (fun i p q => h.2.2.2.1 i p (by omega)) fun i p q e => C.topSame (by have := h.2.1; omega) e
theorem Cx.botRun (C : Cx S N P id s all) {a b : Nat} (h : RunK (dnK P s all) all.length a b) {k : Nat} (h1 : a ≤ k) (h2 : k ≤ b) : (tK P all k).bot = (tK P all a).bot :=
  runSame (f := fun k => (tK P all k).bot) (g := dnK P s all) h1 (fun i p q => h.2.2.2.1 i p (by omega)) fun i p q e => C.botSame (by have := h.2.1; omega) e
/-- A place of a run: in one of its trapezes, or at a wall between two. -/
theorem Cx.inRun (C : Cx S N P id s all) {a : Nat} {x : Rat} : ∀ {b : Nat}, a ≤ b → b < all.length → lowR s (tK P all a) < x → x < higR s (tK P all b) → ∃ k, a ≤ k ∧ k ≤ b ∧ ((lnS s).spans x ∧ InX (tK P all k) x ∨ a < k ∧ x = Xr (tK P all k).l) := by
  intro b
  induction b with
  | zero =>
    intro h hb h1 h2
    obtain rfl : a = 0 := by omega
    exact ⟨0, by omega, by omega, .inl (in_iff.1 ⟨h1, h2⟩)⟩
  | succ b ih =>
    intro h hb h1 h2
    by_cases e : a = b + 1
    · subst e
      exact ⟨b + 1, by omega, by omega, .inl (in_iff.1 ⟨h1, h2⟩)⟩
    obtain ⟨l1, l2, l3, l4, l5, l6, l7⟩ := C.link hb
    by_cases g : x < higR s (tK P all b)
    · obtain ⟨k, k1, k2, k3⟩ := ih (by omega) (by omega) h1 g
      exact ⟨k, k1, by omega, k3⟩
    · by_cases g2 : x = Xr (tK P all (b + 1)).l
      · exact ⟨b + 1, by omega, by omega, .inr ⟨by omega, g2⟩⟩
      · rw [l7] at g
        exact ⟨b + 1, by omega, by omega, .inl (in_iff.1 ⟨by rw [l6]; grind, h2⟩)⟩
/-- The ends of a run lie within the line. -/
theorem Cx.runX (C : Cx S N P id s all) {a b : Nat} (h : a ≤ b) (hb : b < all.length) : Xr s.a ≤ Xr (lftK P s all a) ∧ Xr (lftK P s all a) < Xr (rgtK P s all b) ∧ Xr (rgtK P s all b) ≤ Xr s.b := by
  rw [C.lftX (by omega), C.rgtX hb]
  obtain ⟨x0, p0, q0⟩ := C.pass (show a < all.length by omega)
  obtain ⟨x1, p1, q1⟩ := C.pass hb
  have i0 := in_iff.2 ⟨p0, q0.ix⟩
  have i1 := in_iff.2 ⟨p1, q1.ix⟩
  have j0 := low_iff (s := s) (t := tK P all a) (x := lowR s (tK P all a))
  have j1 := hig_iff (s := s) (t := tK P all b) (x := higR s (tK P all b))
  refine ⟨?_, ?_, ?_⟩
  · unfold lowR; split
    · rename_i g; exact Rat.le_of_lt g.2
    · exact Rat.le_refl
  · by_cases e : a = b
    · subst e; grind
    · have := C.chain.2.2.2.1 a b (by omega) hb
      grind
  · unfold higR; split
    · rename_i g; exact Rat.le_of_lt g.2
    · exact Rat.le_refl
theorem Cx.lftEnd (C : Cx S N P id s all) {k : Nat} (hk : k < all.length) : (tK P all k).hl = true → Xr (tK P all k).l ≤ Xr (lftK P s all k) := by
  intro h
  unfold lftK
  by_cases e : k = 0
  · subst e; rw [if_pos rfl]; exact C.first h
  · rw [if_neg e]; exact Rat.le_refl
theorem Cx.rgtEnd (C : Cx S N P id s all) {k : Nat} (hk : k < all.length) : (tK P all k).hr = true → Xr (rgtK P s all k) ≤ Xr (tK P all k).r := by
  intro h
  unfold rgtK
  by_cases e : k + 1 = all.length
  · rw [if_pos e]
    have := C.last
    rw [show all.length - 1 = k by omega] at this
    exact this h
  · rw [if_neg e]; exact Rat.le_refl
theorem Cx.valU (C : Cx S N P id s all) {a b : Nat} (h : RunK (upK P s all) all.length a b) : Val ((id, s) :: S) (tzK P id s all (.U a b)) := by
  obtain ⟨r1, r2, r3, r4, r5⟩ := h
  have ha : a < all.length := by omega
  have V := C.val ha
  have Vb := C.val r2
  obtain ⟨n1, n2⟩ := V.notId C.ok
  obtain ⟨sa, sb, hab, ya, yb⟩ := C.new
  have id0 : id ≠ 0 := C.ok.ids (id, s) (by simp)
  obtain ⟨x1, x2, x3⟩ := C.runX r1 r2
  have top := fun k h1 h2 => C.topRun (k := k) ⟨r1, r2, r3, r4, r5⟩ h1 h2
  have tb := top b r1 (Nat.le_refl _)
  have eb : botL ((id, s) :: S) (tzK P id s all (.U a b)) = lnS s := by
    show lnS (sgOf ((id, s) :: S) id) = _
    rw [sgOf_head]
  have et : topL ((id, s) :: S) (tzK P id s all (.U a b)) = topL S (tK P all a) := topL_cons n2
  have etk : ∀ k, a ≤ k → k ≤ b → topL S (tK P all k) = topL S (tK P all a) := fun k h1 h2 => by unfold topL; rw [top k h1 h2]
  obtain ⟨xa, pa, qa⟩ := C.pass ha
  -- the top's span
  have tsp : (tK P all a).top ≠ 0 → (tK P all a).hl = true ∧ (tK P all b).hr = true ∧ Xr (sgOf S (tK P all a).top).a ≤ Xr (lftK P s all a) ∧ Xr (rgtK P s all b) ≤ Xr (sgOf S (tK P all a).top).b := fun ht => by
    obtain ⟨t1, t2, t3, t4, t5⟩ := V.top ht
    obtain ⟨u1, u2, u3, u4, u5⟩ := Vb.top (by rw [tb]; exact ht)
    rw [tb] at u5
    have := C.lftEnd ha t2
    have := C.rgtEnd r2 u3
    have := Xr_le.2 t4
    have := Xr_le.2 u5
    exact ⟨t2, u3, by grind, by grind⟩
  have nearA : (tK P all a).top ≠ 0 → ∀ x, Xr (lftK P s all a) ≤ x → x ≤ Xr (rgtK P s all b) → (topL S (tK P all a)).near x := fun ht x g1 g2 => by
    obtain ⟨_, _, e1, e2⟩ := tsp ht
    exact ⟨show Xr _ ≤ x by grind, show x ≤ Xr _ by grind⟩
  have nearS : ∀ x, Xr (lftK P s all a) ≤ x → x ≤ Xr (rgtK P s all b) → (lnS s).near x := fun x g1 g2 => ⟨show Xr s.a ≤ x by grind, show x ≤ Xr s.b by grind⟩
  have le : (tK P all a).top ≠ 0 → ∀ x, Xr (lftK P s all a) ≤ x → x ≤ Xr (rgtK P s all b) → (lnS s).at x ≤ (topL S (tK P all a)).at x := fun ht x g1 g2 =>
    sep_le (C.sepT ha ht) pa (V.topSp ht qa.ix) (nearS x g1 g2) (nearA ht x g1 g2) (qa.hi ht)
  refine ⟨fun _ => ?_, fun ht => ?_, fun _ _ => Xr_lt.1 x2, fun _ ht x hx => ?_, fun _ => ⟨?_, fun _ => ?_, fun ht => ?_⟩, fun _ => ⟨?_, fun _ => ?_, fun ht => ?_⟩, fun q hq x hx hI => ?_, fun h => (by cases h), fun h => (by cases h)⟩
  · show (id, sgOf ((id, s) :: S) id) ∈ _ ∧ true = true ∧ true = true ∧ Xi (sgOf ((id, s) :: S) id).a ≤ _ ∧ _ ≤ Xi (sgOf ((id, s) :: S) id).b
    rw [sgOf_head]
    exact ⟨by simp, rfl, rfl, Xr_le.1 x1, Xr_le.1 x3⟩
  · obtain ⟨e0, e3, e1, e2⟩ := tsp ht
    have e : sgOf ((id, s) :: S) (tzK P id s all (.U a b)).top = sgOf S (tK P all a).top := sgOf_cons n2
    rw [e]
    exact ⟨List.mem_cons_of_mem _ (V.top ht).1, rfl, rfl, Xr_le.1 e1, Xr_le.1 e2⟩
  · rw [eb, et]
    have y1 : Xr (lftK P s all a) < x := hx.1 rfl
    have y2 : x < Xr (rgtK P s all b) := hx.2 rfl
    obtain ⟨_, _, e1, e2⟩ := tsp ht
    refine (C.sepT ha ht).keeps pa (V.topSp ht qa.ix) ⟨show Xr s.a < x by grind, show x < Xr s.b by grind⟩ ⟨show Xr (sgOf S (tK P all a).top).a < x by grind, show x < Xr (sgOf S (tK P all a).top).b by grind⟩ (qa.hi ht)
  · show EndS _ (lftK P s all a)
    unfold lftK
    split
    · exact endS_a
    · obtain ⟨j, rfl⟩ : ∃ j, a = j + 1 := ⟨a - 1, by omega⟩
      exact (V.wl (C.link ha).2.1).1.cons
  · rw [eb]
    show (lnS s).at (Xr (lftK P s all a)) ≤ Yr (lftK P s all a)
    unfold lftK
    by_cases e : a = 0
    · rw [if_pos e, ya]; exact Rat.le_refl
    · rw [if_neg e]
      obtain ⟨j, rfl⟩ : ∃ j, a = j + 1 := ⟨a - 1, by omega⟩
      rcases r3 with r3 | r3
      · omega
      · exact Rat.le_of_lt ((C.wall ha).2.2.1.1 r3)
  · rw [et]
    have := le ht (Xr (lftK P s all a)) Rat.le_refl (Rat.le_of_lt x2)
    show Yr (lftK P s all a) ≤ (topL S (tK P all a)).at (Xr (lftK P s all a))
    by_cases e : a = 0
    · have e2 : lftK P s all a = s.a := by unfold lftK; rw [if_pos e]
      rw [e2, ya] at this
      rw [e2]; exact this
    · have e2 : lftK P s all a = (tK P all a).l := by unfold lftK; rw [if_neg e]
      rw [e2]
      obtain ⟨j, rfl⟩ : ∃ j, a = j + 1 := ⟨a - 1, by omega⟩
      exact (V.wl (C.link ha).2.1).2.2 ht
  · show EndS _ (rgtK P s all b)
    unfold rgtK
    split
    · exact endS_b
    · exact (Vb.wr (C.link (show b + 1 < all.length by omega)).1).1.cons
  · rw [eb]
    show (lnS s).at (Xr (rgtK P s all b)) ≤ Yr (rgtK P s all b)
    unfold rgtK
    by_cases e : b + 1 = all.length
    · rw [if_pos e, yb]; exact Rat.le_refl
    · rw [if_neg e]
      have hb1 : b + 1 < all.length := by omega
      have l3 := (C.link hb1).2.2.1
      rcases r5 with r5 | r5
      · exact absurd r5 e
      · have := Rat.le_of_lt ((C.wall hb1).2.2.1.1 r5)
        rw [← l3] at this
        exact this
  · rw [et]
    have := le ht (Xr (rgtK P s all b)) (Rat.le_of_lt x2) Rat.le_refl
    show Yr (rgtK P s all b) ≤ (topL S (tK P all a)).at (Xr (rgtK P s all b))
    by_cases e : b + 1 = all.length
    · have e2 : rgtK P s all b = s.b := by unfold rgtK; rw [if_pos e]
      rw [e2, yb] at this
      rw [e2]; exact this
    · have e2 : rgtK P s all b = (tK P all b).r := by unfold rgtK; rw [if_neg e]
      rw [e2, ← etk b r1 (Nat.le_refl _)]
      exact (Vb.wr (C.link (show b + 1 < all.length by omega)).1).2.2 (by rw [tb]; exact ht)
  · have y1 : Xr (lftK P s all a) < x := hI.ix.1 rfl
    have y2 : x < Xr (rgtK P s all b) := hI.ix.2 rfl
    have lo : (lnS s).at x < (lnS q.2).at x := by have := hI.lo id0; rw [eb] at this; exact this
    have hi : (tK P all a).top ≠ 0 → (lnS q.2).at x < (topL S (tK P all a)).at x := fun ht => by have := hI.hi ht; rw [et] at this; exact this
    rcases List.mem_cons.1 hq with rfl | hq
    · grind
    have no : ∀ k, a ≤ k → k ≤ b → ∀ z, (lnS s).spans z → InX (tK P all k) z → (lnS q.2).spans z → (lnS s).at z < (lnS q.2).at z → ((tK P all a).top ≠ 0 → (lnS q.2).at z < (topL S (tK P all a)).at z) → False := fun k k1 k2 z z1 z2 z3 z4 z5 => by
      obtain ⟨c1, c2⟩ := C.capT (show k < all.length by omega) z1 z2 hq z3 z4
      rw [top k k1 k2] at c1
      rw [etk k k1 k2] at c2
      have := z5 c1
      grind
    rw [C.lftX ha] at y1
    rw [C.rgtX r2] at y2
    obtain ⟨k, k1, k2, k3⟩ := C.inRun r1 r2 y1 y2
    rcases k3 with ⟨k3, k4⟩ | ⟨k3, rfl⟩
    · exact no k k1 k2 x k3 k4 hx lo hi
    · obtain ⟨j, rfl⟩ : ∃ j, k = j + 1 := ⟨k - 1, by omega⟩
      have n1 : Nr (Xr (tK P all (j + 1)).l) fun z => (lnS q.2).spans z ∧ (lnS s).at z < (lnS q.2).at z ∧ ((tK P all a).top ≠ 0 → (lnS q.2).at z < (topL S (tK P all a)).at z) :=
        (Nr.span hx).and ((Nr.below lo).and (Nr.imp fun ht => Nr.below (hi ht)))
      obtain ⟨z, _, z1, z2, z3, z4, z5⟩ := C.nearR (show j + 1 < all.length by omega) n1
      exact no (j + 1) k1 k2 z z1 z2 z3 z4 z5
theorem Cx.valD (C : Cx S N P id s all) {a b : Nat} (h : RunK (dnK P s all) all.length a b) : Val ((id, s) :: S) (tzK P id s all (.D a b)) := by
  obtain ⟨r1, r2, r3, r4, r5⟩ := h
  have ha : a < all.length := by omega
  have V := C.val ha
  have Vb := C.val r2
  obtain ⟨n1, n2⟩ := V.notId C.ok
  obtain ⟨sa, sb, hab, ya, yb⟩ := C.new
  have id0 : id ≠ 0 := C.ok.ids (id, s) (by simp)
  obtain ⟨x1, x2, x3⟩ := C.runX r1 r2
  have top := fun k h1 h2 => C.botRun (k := k) ⟨r1, r2, r3, r4, r5⟩ h1 h2
  have tb := top b r1 (Nat.le_refl _)
  have eb : topL ((id, s) :: S) (tzK P id s all (.D a b)) = lnS s := by
    show lnS (sgOf ((id, s) :: S) id) = _
    rw [sgOf_head]
  have et : botL ((id, s) :: S) (tzK P id s all (.D a b)) = botL S (tK P all a) := botL_cons n1
  have etk : ∀ k, a ≤ k → k ≤ b → botL S (tK P all k) = botL S (tK P all a) := fun k h1 h2 => by unfold botL; rw [top k h1 h2]
  obtain ⟨xa, pa, qa⟩ := C.pass ha
  have tsp : (tK P all a).bot ≠ 0 → (tK P all a).hl = true ∧ (tK P all b).hr = true ∧ Xr (sgOf S (tK P all a).bot).a ≤ Xr (lftK P s all a) ∧ Xr (rgtK P s all b) ≤ Xr (sgOf S (tK P all a).bot).b := fun ht => by
    obtain ⟨t1, t2, t3, t4, t5⟩ := V.bot ht
    obtain ⟨u1, u2, u3, u4, u5⟩ := Vb.bot (by rw [tb]; exact ht)
    rw [tb] at u5
    have := C.lftEnd ha t2
    have := C.rgtEnd r2 u3
    have := Xr_le.2 t4
    have := Xr_le.2 u5
    exact ⟨t2, u3, by grind, by grind⟩
  have nearA : (tK P all a).bot ≠ 0 → ∀ x, Xr (lftK P s all a) ≤ x → x ≤ Xr (rgtK P s all b) → (botL S (tK P all a)).near x := fun ht x g1 g2 => by
    obtain ⟨_, _, e1, e2⟩ := tsp ht
    exact ⟨show Xr _ ≤ x by grind, show x ≤ Xr _ by grind⟩
  have nearS : ∀ x, Xr (lftK P s all a) ≤ x → x ≤ Xr (rgtK P s all b) → (lnS s).near x := fun x g1 g2 => ⟨show Xr s.a ≤ x by grind, show x ≤ Xr s.b by grind⟩
  have le : (tK P all a).bot ≠ 0 → ∀ x, Xr (lftK P s all a) ≤ x → x ≤ Xr (rgtK P s all b) → (botL S (tK P all a)).at x ≤ (lnS s).at x := fun ht x g1 g2 =>
    sep_le (C.sepB ha ht) (V.botSp ht qa.ix) pa (nearA ht x g1 g2) (nearS x g1 g2) (qa.lo ht)
  refine ⟨fun ht => ?_, fun _ => ?_, fun _ _ => Xr_lt.1 x2, fun ht _ x hx => ?_, fun _ => ⟨?_, fun ht => ?_, fun _ => ?_⟩, fun _ => ⟨?_, fun ht => ?_, fun _ => ?_⟩, fun q hq x hx hI => ?_, fun h => (by cases h), fun h => (by cases h)⟩
  · obtain ⟨e0, e3, e1, e2⟩ := tsp ht
    have e : sgOf ((id, s) :: S) (tzK P id s all (.D a b)).bot = sgOf S (tK P all a).bot := sgOf_cons n1
    rw [e]
    exact ⟨List.mem_cons_of_mem _ (V.bot ht).1, rfl, rfl, Xr_le.1 e1, Xr_le.1 e2⟩
  · show (id, sgOf ((id, s) :: S) id) ∈ _ ∧ true = true ∧ true = true ∧ Xi (sgOf ((id, s) :: S) id).a ≤ _ ∧ _ ≤ Xi (sgOf ((id, s) :: S) id).b
    rw [sgOf_head]
    exact ⟨by simp, rfl, rfl, Xr_le.1 x1, Xr_le.1 x3⟩
  · rw [eb, et]
    have y1 : Xr (lftK P s all a) < x := hx.1 rfl
    have y2 : x < Xr (rgtK P s all b) := hx.2 rfl
    obtain ⟨_, _, e1, e2⟩ := tsp ht
    refine (C.sepB ha ht).keeps (V.botSp ht qa.ix) pa ⟨show Xr (sgOf S (tK P all a).bot).a < x by grind, show x < Xr (sgOf S (tK P all a).bot).b by grind⟩ ⟨show Xr s.a < x by grind, show x < Xr s.b by grind⟩ (qa.lo ht)
  · show EndS _ (lftK P s all a)
    unfold lftK
    split
    · exact endS_a
    · obtain ⟨j, rfl⟩ : ∃ j, a = j + 1 := ⟨a - 1, by omega⟩
      exact (V.wl (C.link ha).2.1).1.cons
  · rw [et]
    have := le ht (Xr (lftK P s all a)) Rat.le_refl (Rat.le_of_lt x2)
    show (botL S (tK P all a)).at (Xr (lftK P s all a)) ≤ Yr (lftK P s all a)
    by_cases e : a = 0
    · have e2 : lftK P s all a = s.a := by unfold lftK; rw [if_pos e]
      rw [e2, ya] at this
      rw [e2]; exact this
    · have e2 : lftK P s all a = (tK P all a).l := by unfold lftK; rw [if_neg e]
      rw [e2]
      obtain ⟨j, rfl⟩ : ∃ j, a = j + 1 := ⟨a - 1, by omega⟩
      exact (V.wl (C.link ha).2.1).2.1 ht
  · rw [eb]
    show Yr (lftK P s all a) ≤ (lnS s).at (Xr (lftK P s all a))
    unfold lftK
    by_cases e : a = 0
    · rw [if_pos e, ya]; exact Rat.le_refl
    · rw [if_neg e]
      obtain ⟨j, rfl⟩ : ∃ j, a = j + 1 := ⟨a - 1, by omega⟩
      rcases r3 with r3 | r3
      · omega
      · exact Rat.le_of_lt ((C.wall ha).2.2.2.1 r3)
  · show EndS _ (rgtK P s all b)
    unfold rgtK
    split
    · exact endS_b
    · exact (Vb.wr (C.link (show b + 1 < all.length by omega)).1).1.cons
  · rw [et]
    have := le ht (Xr (rgtK P s all b)) (Rat.le_of_lt x2) Rat.le_refl
    show (botL S (tK P all a)).at (Xr (rgtK P s all b)) ≤ Yr (rgtK P s all b)
    by_cases e : b + 1 = all.length
    · have e2 : rgtK P s all b = s.b := by unfold rgtK; rw [if_pos e]
      rw [e2, yb] at this
      rw [e2]; exact this
    · have e2 : rgtK P s all b = (tK P all b).r := by unfold rgtK; rw [if_neg e]
      rw [e2, ← etk b r1 (Nat.le_refl _)]
      exact (Vb.wr (C.link (show b + 1 < all.length by omega)).1).2.1 (by rw [tb]; exact ht)
  · rw [eb]
    show Yr (rgtK P s all b) ≤ (lnS s).at (Xr (rgtK P s all b))
    unfold rgtK
    by_cases e : b + 1 = all.length
    · rw [if_pos e, yb]; exact Rat.le_refl
    · rw [if_neg e]
      have hb1 : b + 1 < all.length := by omega
      have l3 := (C.link hb1).2.2.1
      rcases r5 with r5 | r5
      · exact absurd r5 e
      · have := Rat.le_of_lt ((C.wall hb1).2.2.2.1 r5)
        rw [← l3] at this
        exact this
  · have y1 : Xr (lftK P s all a) < x := hI.ix.1 rfl
    have y2 : x < Xr (rgtK P s all b) := hI.ix.2 rfl
    have lo : (lnS q.2).at x < (lnS s).at x := by have := hI.hi id0; rw [eb] at this; exact this
    have hi : (tK P all a).bot ≠ 0 → (botL S (tK P all a)).at x < (lnS q.2).at x := fun ht => by have := hI.lo ht; rw [et] at this; exact this
    rcases List.mem_cons.1 hq with rfl | hq
    · grind
    have no : ∀ k, a ≤ k → k ≤ b → ∀ z, (lnS s).spans z → InX (tK P all k) z → (lnS q.2).spans z → (lnS q.2).at z < (lnS s).at z → ((tK P all a).bot ≠ 0 → (botL S (tK P all a)).at z < (lnS q.2).at z) → False := fun k k1 k2 z z1 z2 z3 z4 z5 => by
      obtain ⟨c1, c2⟩ := C.capB (show k < all.length by omega) z1 z2 hq z3 z4
      rw [top k k1 k2] at c1
      rw [etk k k1 k2] at c2
      have := z5 c1
      grind
    rw [C.lftX ha] at y1
    rw [C.rgtX r2] at y2
    obtain ⟨k, k1, k2, k3⟩ := C.inRun r1 r2 y1 y2
    rcases k3 with ⟨k3, k4⟩ | ⟨k3, rfl⟩
    · exact no k k1 k2 x k3 k4 hx lo hi
    · obtain ⟨j, rfl⟩ : ∃ j, k = j + 1 := ⟨k - 1, by omega⟩
      have n1 : Nr (Xr (tK P all (j + 1)).l) fun z => (lnS q.2).spans z ∧ (lnS q.2).at z < (lnS s).at z ∧ ((tK P all a).bot ≠ 0 → (botL S (tK P all a)).at z < (lnS q.2).at z) :=
        (Nr.span hx).and ((Nr.below lo).and (Nr.imp fun ht => Nr.below (hi ht)))
      obtain ⟨z, _, z1, z2, z3, z4, z5⟩ := C.nearR (show j + 1 < all.length by omega) n1
      exact no (j + 1) k1 k2 z z1 z2 z3 z4 z5
end Go.Proofs.Ytlhmjhildlnokaa

/-
  An index stays one when a line is put in.
-/
namespace Go.Proofs.Ytlhmjhildlnokaa
set_option linter.unusedVariables false
set_option linter.unusedSimpArgs false
open Go.RowKit Go.Sort Go.Shelf
variable {S S' : List (Int × Sg)} {N N' : List Nd} {P : List Pc} {id : Int} {s : Sg} {all : List Nat} {t : Tz} {x y : Rat}
/-! ### Questions, with one line more -/
theorem Desc.onM (hN : ∀ (n : Nat) (q : Nd), N[n]? = some q → q.k ≠ 0 → N'[n]? = some q) (hS : ∀ q ∈ S, q ∈ S') {k n : Nat} {r : Ans} (h : Desc N S x y k n r) : ∀ i, r = .on i → Desc N' S' x y k n (.on i) := by
  induction h with
  | leaf => intro i e; cases e
  | ptL h hk hp hx hm _ ih => exact fun i e => .ptL (hN _ _ h (by rw [hk]; decide)) hk hp hx hm (ih i e)
  | ptR h hk hp hx hm _ ih => exact fun i e => .ptR (hN _ _ h (by rw [hk]; decide)) hk hp hx hm (ih i e)
  | lnU h hk hs hy hm _ ih => exact fun i e => .lnU (hN _ _ h (by rw [hk]; decide)) hk (hS _ hs) hy hm (ih i e)
  | lnD h hk hs hy hm _ ih => exact fun i e => .lnD (hN _ _ h (by rw [hk]; decide)) hk (hS _ hs) hy hm (ih i e)
  | on h hk hs hy =>
    intro i e
    injection e with e
    subst e
    exact .on (hN _ _ h (by rw [hk]; decide)) hk (hS _ hs) hy
theorem Desc.leafM (hN : ∀ (n : Nat) (q : Nd), N[n]? = some q → q.k ≠ 0 → N'[n]? = some q) (hS : ∀ q ∈ S, q ∈ S') {k n : Nat} {r : Ans} (h : Desc N S x y k n r) : ∀ m, r = .leaf m → ∀ j r', Desc N' S' x y j m r' → ∃ k', Desc N' S' x y k' n r' := by
  induction h with
  | leaf => intro m e j r' g; injection e with e; subst e; exact ⟨j, g⟩
  | ptL h hk hp hx hm _ ih =>
    intro m e j r' g
    obtain ⟨k', h'⟩ := ih m e j r' g
    exact ⟨_, .ptL (hN _ _ h (by rw [hk]; decide)) hk hp hx hm h'⟩
  | ptR h hk hp hx hm _ ih =>
    intro m e j r' g
    obtain ⟨k', h'⟩ := ih m e j r' g
    exact ⟨_, .ptR (hN _ _ h (by rw [hk]; decide)) hk hp hx hm h'⟩
  | lnU h hk hs hy hm _ ih =>
    intro m e j r' g
    obtain ⟨k', h'⟩ := ih m e j r' g
    exact ⟨_, .lnU (hN _ _ h (by rw [hk]; decide)) hk (hS _ hs) hy hm h'⟩
  | lnD h hk hs hy hm _ ih =>
    intro m e j r' g
    obtain ⟨k', h'⟩ := ih m e j r' g
    exact ⟨_, .lnD (hN _ _ h (by rw [hk]; decide)) hk (hS _ hs) hy hm h'⟩
  | on => intro m e; cases e
section
variable {X : PSt}
/-- From a node to what is at a place. -/
def Goes (id : Int) (s : Sg) (S : List (Int × Sg)) (X : PSt) (x y : Rat) (n : Nat) : Prop :=
  ∃ j r, Desc X.N ((id, s) :: S) x y j n r ∧ ((r = .on id ∧ (lnS s).spans x ∧ y = (lnS s).at x) ∨ ∃ (i : Nat) (p : Pc), X.P[i]? = some p ∧ p.g = false ∧ InT ((id, s) :: S) p.t x y ∧ r = .leaf p.n.toNat)
theorem goes_leaf {i n : Nat} {K : Kd} (hA : AtN N P id s all X i n K) (hI : InT ((id, s) :: S) (tzK P id s all K) x y) : Goes id s S X x y n :=
  ⟨0, .leaf n, .leaf hA.2.2 rfl, .inr ⟨i, _, hA.2.1, rfl, hI, rfl⟩⟩
theorem goes_pt {c m : Nat} {q : Nd} (h : X.N[c]? = some q) (hk : q.k = 1) (hp : InP q.p) (hc : x < Xr q.p ∧ q.a = (m : Int) ∨ Xr q.p < x ∧ q.b = (m : Int)) (g : Goes id s S X x y m) : Goes id s S X x y c := by
  obtain ⟨j, r, g1, g2⟩ := g
  rcases hc with ⟨h1, h2⟩ | ⟨h1, h2⟩
  · exact ⟨_, r, .ptL h hk hp h1 h2 g1, g2⟩
  · exact ⟨_, r, .ptR h hk hp h1 h2 g1, g2⟩
theorem Cx.inU (C : Cx S N P id s all) {a b k : Nat} (h : RunK (upK P s all) all.length a b) (h1 : a ≤ k) (h2 : k ≤ b) (hI : InT S (tK P all k) x y) (sp : (lnS s).spans x) (hy : (lnS s).at x < y) : InT ((id, s) :: S) (tzK P id s all (.U a b)) x y := by
  have hb := h.2.1
  obtain ⟨n1, n2⟩ := (C.val (show a < all.length by omega)).notId C.ok
  have i0 := in_iff.2 ⟨sp, hI.ix⟩
  refine ⟨⟨fun _ => ?_, fun _ => ?_⟩, fun _ => ?_, fun ht => ?_⟩
  · show Xr (lftK P s all a) < x
    have : Xr (lftK P s all a) ≤ Xr (lftK P s all k) := by
      by_cases e : a = k
      · rw [e]; exact Rat.le_refl
      · exact Rat.le_of_lt (C.mono (show a < k by omega) (by omega)).1
    rw [C.lftX (show k < all.length by omega)] at this
    grind
  · show x < Xr (rgtK P s all b)
    have : Xr (rgtK P s all k) ≤ Xr (rgtK P s all b) := by
      by_cases e : k = b
      · rw [e]; exact Rat.le_refl
      · have h3 := (C.mono (show k < b by omega) hb).2
        have h4 := (C.runX (Nat.le_refl b) hb).2.1
        grind
    rw [C.rgtX (show k < all.length by omega)] at this
    grind
  · show (lnS (sgOf ((id, s) :: S) id)).at x < y
    rw [sgOf_head]; exact hy
  · have e : topL ((id, s) :: S) (tzK P id s all (.U a b)) = topL S (tK P all a) := topL_cons n2
    rw [e]
    have et := C.topRun h h1 h2
    have := hI.hi (by rw [et]; exact ht)
    unfold topL at this ⊢
    rw [et] at this
    exact this
theorem Cx.inD (C : Cx S N P id s all) {a b k : Nat} (h : RunK (dnK P s all) all.length a b) (h1 : a ≤ k) (h2 : k ≤ b) (hI : InT S (tK P all k) x y) (sp : (lnS s).spans x) (hy : y < (lnS s).at x) : InT ((id, s) :: S) (tzK P id s all (.D a b)) x y := by
  have hb := h.2.1
  obtain ⟨n1, n2⟩ := (C.val (show a < all.length by omega)).notId C.ok
  have i0 := in_iff.2 ⟨sp, hI.ix⟩
  refine ⟨⟨fun _ => ?_, fun _ => ?_⟩, fun ht => ?_, fun _ => ?_⟩
  · show Xr (lftK P s all a) < x
    have : Xr (lftK P s all a) ≤ Xr (lftK P s all k) := by
      by_cases e : a = k
      · rw [e]; exact Rat.le_refl
      · exact Rat.le_of_lt (C.mono (show a < k by omega) (by omega)).1
    rw [C.lftX (show k < all.length by omega)] at this
    grind
  · show x < Xr (rgtK P s all b)
    have : Xr (rgtK P s all k) ≤ Xr (rgtK P s all b) := by
      by_cases e : k = b
      · rw [e]; exact Rat.le_refl
      · have h3 := (C.mono (show k < b by omega) hb).2
        have h4 := (C.runX (Nat.le_refl b) hb).2.1
        grind
    rw [C.rgtX (show k < all.length by omega)] at this
    grind
  · have e : botL ((id, s) :: S) (tzK P id s all (.D a b)) = botL S (tK P all a) := botL_cons n1
    rw [e]
    have et := C.botRun h h1 h2
    have := hI.lo (by rw [et]; exact ht)
    unfold botL at this ⊢
    rw [et] at this
    exact this
  · show y < (lnS (sgOf ((id, s) :: S) id)).at x
    rw [sgOf_head]; exact hy
theorem Cx.inL (C : Cx S N P id s all) (hI : InT S (tK P all 0) x y) (hx : x < Xr s.a) : InT ((id, s) :: S) (tzK P id s all .L) x y := by
  obtain ⟨n1, n2⟩ := (C.val C.chain.1).notId C.ok
  have : InT S (tzK P id s all .L) x y := ⟨⟨hI.ix.1, fun _ => hx⟩, hI.lo, hI.hi⟩
  exact (inT_cons (t := tzK P id s all .L) n1 n2).2 this
theorem Cx.inR (C : Cx S N P id s all) (hI : InT S (tK P all (all.length - 1)) x y) (hx : Xr s.b < x) : InT ((id, s) :: S) (tzK P id s all .R) x y := by
  obtain ⟨n1, n2⟩ := (C.val (show all.length - 1 < all.length by have := C.chain.1; omega)).notId C.ok
  have : InT S (tzK P id s all .R) x y := ⟨⟨fun _ => hx, hI.ix.2⟩, hI.lo, hI.hi⟩
  exact (inT_cons (t := tzK P id s all .R) n1 n2).2 this
/-- A point of a trapeze that was crossed: its leaf's place leads to what is there now. -/
theorem Cx.goes (C : Cx S N P id s all) (H : CI N P id s all all.length X) {k : Nat} (hk : k < all.length) (hI : InT S (tK P all k) x y) (ha : x ≠ Xr s.a) (hb : x ≠ Xr s.b) : Goes id s S X x y (pk P all k).n.toNat := by
  obtain ⟨sa, sb, hab, ya, yb⟩ := C.new
  obtain ⟨u, d, pu, pd, su, eu, sd, ed, h1, h2, h3, h4, h5, h6, h7, h8, h9, h10, _, q1, q2, q3, g1, g2, g3, g4⟩ := H.F k hk
  have V := C.val hk
  have line : Xr s.a < x → x < Xr s.b → ∀ c, X.N[c]? = some q1 → Goes id s S X x y c := by
    intro x1 x2 c hc
    have sp : (lnS s).spans x := ⟨x1, x2⟩
    subst g1
    by_cases e : y = (lnS s).at x
    · exact ⟨0, .on id, .on (s := s) hc rfl (by simp) e, .inl ⟨rfl, sp, e⟩⟩
    · by_cases up : (lnS s).at x < y
      · obtain ⟨j, r, a1, a2⟩ := goes_leaf (S := S) h9 (C.inU h7 h1 h2 hI sp up)
        exact ⟨_, r, .lnU (s := s) hc rfl (by simp) up rfl a1, a2⟩
      · have dn : y < (lnS s).at x := by grind
        obtain ⟨j, r, a1, a2⟩ := goes_leaf (S := S) h10 (C.inD h8 h3 h4 hI sp dn)
        exact ⟨_, r, .lnD (s := s) hc rfl (by simp) dn rfl a1, a2⟩
  have fin : Xr s.a < x → ∀ c, X.N[c]? = some q2 → Goes id s S X x y c := by
    intro x1 c hc
    cases hce : ceK P s all k
    · rw [hce] at g2
      have g2' : q2 = q1 := g2
      rw [g2'] at hc
      refine line x1 ?_ c hc
      by_cases e : k + 1 = all.length
      · unfold ceK at hce
        rw [decide_eq_true e, Bool.true_and, Bool.or_eq_false_iff, Bool.not_eq_false'] at hce
        have h1 := hI.ix.2 hce.1
        have h2 : ¬ Xr s.b < Xr (tK P all k).r := fun q => by
          rw [(less_X sb (C.ti.ok.endIn (V.wr hce.1).1)).2 q] at hce
          cases hce.2
        grind
      · obtain ⟨l1, _, l3, _, l5, _⟩ := C.link (show k + 1 < all.length by omega)
        have := hI.ix.2 l1
        rw [l3] at this
        grind
    · rw [hce, if_pos rfl] at g2
      obtain ⟨c', e, i, m1, m2, m3, m4, rfl⟩ := g2
      have hm : k = all.length - 1 := by
        unfold ceK at hce
        simp only [Bool.and_eq_true, decide_eq_true_eq] at hce
        omega
      by_cases x2 : x < Xr s.b
      · exact goes_pt hc rfl sb (.inl ⟨x2, rfl⟩) (line x1 x2 c' m2)
      · have x3 : Xr s.b < x := by grind
        refine goes_pt hc rfl sb (.inr ⟨x3, rfl⟩) (goes_leaf m4 (C.inR ?_ x3))
        rw [← hm]; exact hI
  cases hcb : cbK P s all k
  · rw [hcb] at g3
    have g3' : q3 = q2 := g3
    rw [g3'] at g4
    refine fin ?_ _ g4
    by_cases e : k = 0
    · subst e
      unfold cbK at hcb
      rw [decide_eq_true rfl, Bool.true_and, Bool.or_eq_false_iff, Bool.not_eq_false'] at hcb
      have h1 := hI.ix.1 hcb.1
      have h2 : ¬ Xr (tK P all 0).l < Xr s.a := fun q => by
        rw [(less_X (C.ti.ok.endIn (V.wl hcb.1).1) sa).2 q] at hcb
        cases hcb.2
      grind
    · obtain ⟨j, rfl⟩ : ∃ j, k = j + 1 := ⟨k - 1, by omega⟩
      obtain ⟨_, l2, _, l4, _⟩ := C.link hk
      have := hI.ix.1 l2
      grind
  · rw [hcb, if_pos rfl] at g3
    obtain ⟨c', e, i, m1, m2, m3, m4, rfl⟩ := g3
    have hm : k = 0 := by
      unfold cbK at hcb
      simp only [Bool.and_eq_true, decide_eq_true_eq] at hcb
      exact hcb.1
    by_cases x2 : x < Xr s.a
    · refine goes_pt g4 rfl sa (.inl ⟨x2, rfl⟩) (goes_leaf m4 (C.inL ?_ x2))
      rw [← hm]; exact hI
    · have x3 : Xr s.a < x := by grind
      exact goes_pt g4 rfl sa (.inr ⟨x3, rfl⟩) (fin x3 c' m2)
end
/-- An index stays one. -/
theorem TI.put (C : Cx S N P id s all) : TI ((id, s) :: S) (roundsS id s all all.length ⟨N, P, 0, 0⟩).N (roundsS id s all all.length ⟨N, P, 0, 0⟩).P := by
  have hg : ∀ k, k < all.length → (pk P all k).g = false := fun k hk => by obtain ⟨n, _, _, h, _⟩ := C.at hk; exact h
  have H := rounds_CI C.ctx hg all.length (Nat.le_refl _)
  have W := (roundsS_size (id := id) (s := s) C.ti.wf C.nodup (fun n hn => (cross_few C.cr).2.1 n hn) all.length (Nat.le_refl _)).2.2.1
  generalize roundsS id s all all.length ⟨N, P, 0, 0⟩ = X at *
  have hta : all.take all.length = all := List.take_length
  have m0 := C.chain.1
  -- who lives
  have old : ∀ (i : Nat) (p : Pc), X.P[i]? = some p → p.g = false → i < P.length → P[i]? = some p ∧ i ∉ all ∧ ¬ Pass S s p.t := by
    intro i p h1 h2 h3
    have hn : i ∉ all := fun hm => by
      obtain ⟨q, g1, g2⟩ := H.gone i (by rw [hta]; exact hm)
      rw [h1] at g1
      injection g1 with g1
      rw [← g1, h2] at g2; cases g2
    have hp : P[i]? = some p := (H.oldP i h3 (by rw [hta]; exact hn)).symm.trans h1
    exact ⟨hp, hn, fun h => hn ((C.mem hp).2 ⟨h2, h⟩)⟩
  have new : ∀ (i : Nat) (p : Pc), X.P[i]? = some p → P.length ≤ i → ∃ K n, OkK P s all all.length K ∧ AtN N P id s all X i n K ∧ p = ⟨tzK P id s all K, (n : Int), false⟩ := by
    intro i p h1 h2
    obtain ⟨K, n, g1, g2⟩ := H.new i h2 (List.getElem?_eq_some_iff.1 h1).1
    have := g2.2.1
    rw [h1] at this
    injection this with this
    exact ⟨K, n, g1, g2, this⟩
  have valK : ∀ K, OkK P s all all.length K → Val ((id, s) :: S) (tzK P id s all K) := by
    intro K hK
    cases K with
    | U a b => exact C.valU hK
    | D a b => exact C.valD hK
    | L => exact C.valL hK.2
    | R => exact C.valR hK.2.2
  have nodeK : ∀ (i : Nat) (p : Pc), P[i]? = some p → p.g = false → i ∉ all → ∀ k, k < all.length → (pk P all k).n.toNat ≠ p.n.toNat := by
    intro i p h1 h2 h3 k hk e
    obtain ⟨n, a1, a2, a3, _⟩ := C.at hk
    have l1 := C.ti.leaf n _ a2 a3
    have l2 := C.ti.leaf i p h1 h2
    rw [e, l2] at l1
    injection l1 with l1
    unfold lfN at l1
    injection l1 with _ l1
    have : i = n := by omega
    rw [this] at h3
    exact h3 (List.mem_of_getElem? a1)
  have oldNode : ∀ (n : Nat) (q : Nd), N[n]? = some q → q.k ≠ 0 → X.N[n]? = some q := by
    intro n q h1 h2
    rw [H.oldN n (List.getElem?_eq_some_iff.1 h1).1 (fun k hk e => ?_)]
    · exact h1
    · obtain ⟨m, a1, a2, a3, _⟩ := C.at hk
      have l1 := C.ti.leaf m _ a2 a3
      rw [e, h1] at l1
      injection l1 with l1
      rw [l1] at h2
      exact h2 rfl
  -- an old trapeze isn't a new one
  have apart : ∀ (i : Nat) (p : Pc) (K : Kd), P[i]? = some p → p.g = false → i ∉ all → OkK P s all all.length K → p.t ≠ tzK P id s all K := by
    intro i p K h1 h2 h3 hK e
    have V := C.ti.val i p h1 h2
    obtain ⟨n1, n2⟩ := V.notId C.ok
    have same : ∀ k, k < all.length → (∀ x y, InT ((id, s) :: S) (tzK P id s all K) x y → InT S (tK P all k) x y) → False := by
      intro k hk hh
      have VK := valK K hK
      obtain ⟨x, hx, _⟩ := VK.someX []
      obtain ⟨y, hy⟩ := VK.someY hx
      have a1 := hh x y hy
      rw [← e] at hy
      have a2 := (inT_cons n1 n2).1 hy
      obtain ⟨m, b1, b2, b3, _, b5⟩ := C.at hk
      have := C.ti.dist i m _ _ h1 b2 h2 b3 (val_uniq C.ti.ok V b5 a2 a1)
      rw [this] at h3
      exact h3 (List.mem_of_getElem? b1)
    cases K with
    | U a b => exact n1 (by rw [e]; rfl)
    | D a b => exact n2 (by rw [e]; rfl)
    | L =>
      obtain ⟨c1, c2⟩ := (C.val m0).notId C.ok
      refine same 0 m0 fun x y hI => ?_
      have hI := (inT_cons (t := tzK P id s all .L) c1 c2).1 hI
      have har : (tK P all 0).hr = true → Xr s.a < Xr (tK P all 0).r := fun hr => by
        obtain ⟨x0, p0, q0⟩ := C.pass m0
        have := q0.ix.2 hr
        have a0 : Xr s.a < x0 := p0.1
        grind
      have hxa : x < Xr s.a := hI.ix.2 rfl
      exact ⟨⟨hI.ix.1, fun hr => by have := har hr; grind⟩, hI.lo, hI.hi⟩
    | R =>
      have m1 : all.length - 1 < all.length := by omega
      obtain ⟨c1, c2⟩ := (C.val m1).notId C.ok
      refine same _ m1 fun x y hI => ?_
      have hI := (inT_cons (t := tzK P id s all .R) c1 c2).1 hI
      have hlb : (tK P all (all.length - 1)).hl = true → Xr (tK P all (all.length - 1)).l < Xr s.b := fun hr => by
        obtain ⟨x0, p0, q0⟩ := C.pass m1
        have := q0.ix.1 hr
        have a0 : x0 < Xr s.b := p0.2
        grind
      have hxa : Xr s.b < x := hI.ix.1 rfl
      exact ⟨⟨fun hr => by have := hlb hr; grind, hI.ix.2⟩, hI.lo, hI.hi⟩
  refine ⟨C.ok, W, fun i p h1 h2 => ?_, fun i p h1 h2 => ?_, fun i j p q h1 h2 h3 h4 h5 => ?_, fun x y hx => ?_⟩
  · by_cases hi : i < P.length
    · obtain ⟨a1, a2, a3⟩ := old i p h1 h2 hi
      exact (C.ti.val i p a1 h2).keep C.ok a3
    · obtain ⟨K, n, g1, g2, rfl⟩ := new i p h1 (by omega)
      exact valK K g1
  · by_cases hi : i < P.length
    · obtain ⟨a1, a2, a3⟩ := old i p h1 h2 hi
      have l := C.ti.leaf i p a1 h2
      rw [H.oldN _ (List.getElem?_eq_some_iff.1 l).1 (nodeK i p a1 h2 a2)]
      exact l
    · obtain ⟨K, n, g1, g2, rfl⟩ := new i p h1 (by omega)
      exact g2.2.2
  · by_cases hi : i < P.length <;> by_cases hj : j < P.length
    · exact C.ti.dist i j p q (old i p h1 h3 hi).1 (old j q h2 h4 hj).1 h3 h4 h5
    · obtain ⟨a1, a2, _⟩ := old i p h1 h3 hi
      obtain ⟨K, n, g1, g2, rfl⟩ := new j q h2 (by omega)
      exact absurd h5 (apart i p K a1 h3 a2 g1)
    · obtain ⟨a1, a2, _⟩ := old j q h2 h4 hj
      obtain ⟨K, n, g1, g2, rfl⟩ := new i p h1 (by omega)
      exact absurd h5.symm (apart j q K a1 h4 a2 g1)
    · obtain ⟨K, n, g1, g2, rfl⟩ := new i p h1 (by omega)
      obtain ⟨K', n', g1', g2', rfl⟩ := new j q h2 (by omega)
      exact H.one i j n n' K K' (by omega) (by omega) g1 g1' g2 g2' (tz_tag C.ctx (Nat.le_refl _) g1 g1' h5)
  · rcases C.ti.down x y (fun e he => hx e he.cons) with ⟨k, i', sg, g1, g2, g3, g4⟩ | ⟨k, i, p, g1, g2, g3, g4⟩
    · exact .inl ⟨k, i', sg, by simp [g1], g2, g3, g4.onM oldNode (fun q hq => by simp [hq]) i' rfl⟩
    · by_cases hm : i ∈ all
      · obtain ⟨k0, hk0⟩ := List.getElem?_of_mem hm
        have hkl := (List.getElem?_eq_some_iff.1 hk0).1
        have e : pk P all k0 = p := by unfold pk; rw [hk0]; show (P[i]?).getD pc0 = p; rw [g1]; rfl
        have hI : InT S (tK P all k0) x y := by show InT S (pk P all k0).t x y; rw [e]; exact g3
        obtain ⟨j, r, a1, a2⟩ := C.goes H hkl hI (hx _ endS_a) (hx _ endS_b)
        rw [e] at a1
        obtain ⟨k', a3⟩ := g4.leafM oldNode (fun q hq => List.mem_cons_of_mem (id, s) hq) _ rfl j r a1
        rcases a2 with ⟨rfl, a4, a5⟩ | ⟨i', p', b1, b2, b3, rfl⟩
        · exact .inl ⟨k', id, s, by simp, a4, a5, a3⟩
        · exact .inr ⟨k', i', p', b1, b2, b3, a3⟩
      · have hi := (List.getElem?_eq_some_iff.1 g1).1
        have hX : X.P[i]? = some p := (H.oldP i hi (by rw [hta]; exact hm)).trans g1
        obtain ⟨n1, n2⟩ := (C.ti.val i p g1 g2).notId C.ok
        have l := C.ti.leaf i p g1 g2
        have lX : X.N[p.n.toNat]? = some (lfN i) := by
          rw [H.oldN _ (List.getElem?_eq_some_iff.1 l).1 (nodeK i p g1 g2 hm)]
          exact l
        obtain ⟨k', a3⟩ := g4.leafM oldNode (fun q hq => List.mem_cons_of_mem (id, s) hq) _ rfl 0 _ (.leaf lX rfl)
        exact .inr ⟨k', i, p, hX, g2, (inT_cons n1 n2).2 g3, a3⟩
end Go.Proofs.Ytlhmjhildlnokaa

/-
  The lines of a right plan: they don't cross, and no vertex lies on one. (The same laws stand in EulG: no text imports both.)
-/
namespace Go.Proofs.Ytlhmjhildlnokaa
set_option linter.unusedVariables false
set_option linter.unusedSimpArgs false
variable {vs : List Vt} {es : List Eg}
def loP (vs : List Vt) (e : Eg) : Pt := if Xi (rpt vs e.a) < Xi (rpt vs e.b) then rpt vs e.a else rpt vs e.b

def hiP (vs : List Vt) (e : Eg) : Pt := if Xi (rpt vs e.a) < Xi (rpt vs e.b) then rpt vs e.b else rpt vs e.a

def lnE (vs : List Vt) (e : Eg) : Ln := lnOf (loP vs e) (hiP vs e)

theorem ends_two (vs : List Vt) (e : Eg) : (loP vs e = rpt vs e.a ∧ hiP vs e = rpt vs e.b) ∨ (loP vs e = rpt vs e.b ∧ hiP vs e = rpt vs e.a) := by
  unfold loP hiP; split <;> simp

theorem edge_in (H : RightP vs es) {e : Eg} (he : e ∈ es) : InP (loP vs e) ∧ InP (hiP vs e) ∧ Xi (loP vs e) < Xi (hiP vs e) := by
  have hE := H.each e he
  have i1 := inP_b (rpt_in H.verts hE.2.1.2.1)
  have i2 := inP_b (rpt_in H.verts hE.2.1.2.2)
  have hne := rpt_ne H.verts hE.2.1.1 hE.2.1.2.1 hE.2.1.2.2
  unfold loP hiP
  split
  · rename_i h; exact ⟨i1, i2, h⟩
  · rename_i h
    refine ⟨i2, i1, ?_⟩
    have : Xi (rpt vs e.a) ≠ Xi (rpt vs e.b) := fun q => hne (Xi_inj i1 i2 q)
    omega

theorem pair_apart (H : RightP vs es) {e f : Eg} (he : e ∈ es) (hf : f ∈ es) (hne : e ≠ f) : meetL (rpt vs e.a) (rpt vs e.b) (rpt vs f.a) (rpt vs f.b) = false := by
  have ne : ∀ g ∈ es, rpt vs g.a ≠ rpt vs g.b := fun g hg => by
    have hE := H.each g hg
    exact rpt_ne H.verts hE.2.1.1 hE.2.1.2.1 hE.2.1.2.2
  have h2 := (pairwise_get es).1 H.two
  obtain ⟨i, hi⟩ := List.getElem?_of_mem he
  obtain ⟨j, hj⟩ := List.getElem?_of_mem hf
  rcases Nat.lt_trichotomy i j with q | q | q
  · have := (h2 i j e f q hi hj).2.2
    rw [← meet_eq _ _ _ _ (ne f hf) (ne e he)] at this
    rw [← meet_turn]; exact this
  · subst q; rw [hi] at hj; injection hj with hj; exact absurd hj hne
  · have := (h2 j i f e q hj hi).2.2
    rw [← meet_eq _ _ _ _ (ne e he) (ne f hf)] at this
    exact this

theorem lines_sep (H : RightP vs es) {e f : Eg} (he : e ∈ es) (hf : f ∈ es) (hne : e ≠ f) : (lnE vs e).Sep (lnE vs f) := by
  have h := pair_apart H he hf hne
  have i1 := edge_in H he
  have i2 := edge_in H hf
  refine sep_of i1.1 i1.2.1 i2.1 i2.2.1 (Xr_lt.2 i1.2.2) (Xr_lt.2 i2.2.2) ?_
  have sw : ∀ a b c d : Pt, meetL a b d c = meetL a b c d := fun a b c d => by rw [← meet_turn, meet_swap, meet_turn]
  rcases ends_two vs e with ⟨h1, h2⟩ | ⟨h1, h2⟩ <;> rcases ends_two vs f with ⟨h3, h4⟩ | ⟨h3, h4⟩ <;> rw [h1, h2, h3, h4]
  · exact h
  · rw [sw]; exact h
  · rw [meet_swap]; exact h
  · rw [sw, meet_swap]; exact h

theorem off_line (H : RightP vs es) {e : Eg} (he : e ∈ es) {v : Vt} (hv : v ∈ vs) (h1 : Xi (loP vs e) < Xi v.p) (h2 : Xi v.p < Xi (hiP vs e)) : (lnE vs e).at (Xr v.p) ≠ Yr v.p := by
  intro e0
  have i := edge_in H he
  have iv := inP_b (H.verts.each v hv).2
  have hz := (at_zero (Xr_lt.2 i.2.2) v.p).1 e0.symm
  have hw := (H.each e he).2.2
  unfold onWayR at hw
  have := List.any_eq_false.1 hw v hv
  rw [← onL_onR] at this
  have h3 : onL v.p (loP vs e) (hiP vs e) = false := by
    rcases ends_two vs e with ⟨h1, h2⟩ | ⟨h1, h2⟩ <;> rw [h1, h2]
    · simpa using this
    · rw [onL_swap]; simpa using this
  exact on_no iv i.1 i.2.1 hz h3 ⟨Xr_lt.2 h1, Xr_lt.2 h2⟩

end Go.Proofs.Ytlhmjhildlnokaa

/-
  The order of all trapezes.
-/
namespace Go.Proofs.Ytlhmjhildlnokaa
set_option linter.unusedVariables false
set_option linter.unusedSimpArgs false
open Go.RowKit Go.Sort Go.Shelf
/-! ### All trapezes, in order -/
def allZ (a b : Tz) : Int := orZ [leftsZ a b, cmpZ a.bot b.bot, cmpZ a.top b.top]
theorem or3 (a b c : Int) : orZ [a, b, c] = if a ≠ 0 then a else if b ≠ 0 then b else c := by
  by_cases h1 : a = 0 <;> by_cases h2 : b = 0 <;> by_cases h3 : c = 0 <;> simp [orZ, h1, h2, h3]
theorem cmp_cases (a b : Int) : (a < b ∧ cmpZ a b = -1) ∨ (a = b ∧ cmpZ a b = 0) ∨ (b < a ∧ cmpZ a b = 1) := by
  unfold cmpZ
  rcases Int.lt_trichotomy a b with h | h | h
  · left; exact ⟨h, by rw [if_pos h]⟩
  · right; left; exact ⟨h, by rw [if_neg (by omega), if_neg (by omega)]⟩
  · right; right; exact ⟨h, by rw [if_neg (by omega), if_pos h]⟩
theorem lefts_neg (a b : Tz) : leftsZ a b < 0 ↔ ltT a b = true := by unfold ltT; rw [decide_eq_true_eq]
theorem lefts_pos (a b : Tz) : 0 < leftsZ a b ↔ leftsZ b a < 0 := by
  have asy : ∀ p q : Pt, lessB p q = true → lessB q p = false := fun p q h => by
    have h1 : LessP p q := of_decide_eq_true h
    refine decide_eq_false fun h2 => ?_
    unfold LessP at h1 h2
    omega
  unfold leftsZ
  cases ha : a.hl <;> cases hb : b.hl <;> simp
  cases h1 : lessB a.l b.l <;> cases h2 : lessB b.l a.l <;> simp
  have := asy _ _ h1
  rw [h2] at this; cases this
theorem lefts_zero {a b : Tz} : leftsZ a b = 0 ↔ a.hl = b.hl ∧ (a.hl = true → a.l = b.l) := by
  have tri : ∀ p q : Pt, lessB p q = false → lessB q p = false → p = q := fun p q h1 h2 => by
    obtain ⟨x, y⟩ := p
    obtain ⟨u, v⟩ := q
    have g1 : ¬ LessP ⟨x, y⟩ ⟨u, v⟩ := of_decide_eq_false h1
    have g2 : ¬ LessP ⟨u, v⟩ ⟨x, y⟩ := of_decide_eq_false h2
    unfold LessP at g1 g2
    simp only at g1 g2
    have : x = u := by omega
    have : y = v := by omega
    simp [*]
  have irr : ∀ p : Pt, lessB p p = false := lessB_swo.1
  unfold leftsZ
  cases ha : a.hl <;> cases hb : b.hl <;> simp
  constructor
  · intro h
    cases h1 : lessB a.l b.l
    · cases h2 : lessB b.l a.l
      · exact tri _ _ h1 h2
      · rw [h1, h2] at h; simp at h
    · rw [h1] at h; simp at h
  · intro h
    rw [h, irr]; simp
def ltA (a b : Tz) : Bool := decide (allZ a b < 0)
theorem ltA_iff (a b : Tz) : ltA a b = true ↔ ltT a b = true ∨ (leftsZ a b = 0 ∧ (a.bot < b.bot ∨ a.bot = b.bot ∧ a.top < b.top)) := by
  unfold ltA allZ
  rw [decide_eq_true_eq, or3, ← lefts_neg]
  rcases cmp_cases a.bot b.bot with ⟨h1, k1⟩ | ⟨h1, k1⟩ | ⟨h1, k1⟩ <;> rcases cmp_cases a.top b.top with ⟨h2, k2⟩ | ⟨h2, k2⟩ | ⟨h2, k2⟩ <;> rw [k1, k2] <;> by_cases h0 : leftsZ a b = 0
  all_goals first
    | (rw [if_neg (by simpa using h0)]; simp <;> omega)
    | (rw [if_pos h0]; simp [h0])
theorem eqL_iff (a b : Tz) : leftsZ a b = 0 ↔ ltT a b = false ∧ ltT b a = false := by
  have h1 := lefts_neg a b
  have h2 := lefts_neg b a
  have h3 := lefts_pos a b
  constructor
  · intro h
    constructor
    · cases e : ltT a b
      · rfl
      · have := h1.2 e; omega
    · cases e : ltT b a
      · rfl
      · have := h3.2 (h2.2 e); omega
  · rintro ⟨g1, g2⟩
    have n1 : ¬ leftsZ a b < 0 := fun q => by rw [h1.1 q] at g1; cases g1
    have n2 : ¬ 0 < leftsZ a b := fun q => by rw [h2.1 (h3.1 q)] at g2; cases g2
    omega
theorem ltA_swo : (∀ s : Tz, ltA s s = false) ∧ (∀ s t u : Tz, ltA s t = true → ltA t u = true → ltA s u = true) ∧ (∀ s t u : Tz, ltA s t = false → ltA t u = false → ltA s u = false) := by
  obtain ⟨t1, t2, t3⟩ := ltT_swo
  have bf : ∀ {b : Bool}, ¬ b = true → b = false := fun {b} h => by cases b; rfl; exact absurd rfl h
  have bt : ∀ {b : Bool}, b = false → ¬ b = true := fun {b} h => by rw [h]; simp
  have t4 : ∀ a b, ltT a b = true → ltT b a = false := fun a b h => bf fun g => by have := t2 a b a h g; rw [t1] at this; cases this
  refine ⟨fun s => bf fun h => ?_, fun s t u h1 h2 => ?_, fun s t u h1 h2 => bf fun h => ?_⟩
  · rw [ltA_iff] at h
    rcases h with h | h
    · rw [t1] at h; cases h
    · omega
  · rw [ltA_iff] at h1 h2 ⊢
    rcases h1 with h1 | ⟨h1, h1'⟩ <;> rcases h2 with h2 | ⟨h2, h2'⟩
    · exact .inl (t2 _ _ _ h1 h2)
    · rw [eqL_iff] at h2
      refine .inl (Classical.byContradiction fun g => ?_)
      have := t3 _ _ _ (bf g) h2.2
      rw [h1] at this; cases this
    · rw [eqL_iff] at h1
      refine .inl (Classical.byContradiction fun g => ?_)
      have := t3 _ _ _ h1.2 (bf g)
      rw [h2] at this; cases this
    · rw [eqL_iff] at h1 h2
      refine .inr ⟨(eqL_iff _ _).2 ⟨t3 _ _ _ h1.1 h2.1, t3 _ _ _ h2.2 h1.2⟩, by omega⟩
  · have n1 : ¬ (ltT s t = true ∨ _) := fun g => bt h1 ((ltA_iff s t).2 g)
    have n2 : ¬ (ltT t u = true ∨ _) := fun g => bt h2 ((ltA_iff t u).2 g)
    rw [ltA_iff] at h
    simp only [not_or, not_and] at n1 n2
    obtain ⟨a1, a2⟩ := n1
    obtain ⟨b1, b2⟩ := n2
    have c1 := t3 _ _ _ (bf a1) (bf b1)
    rcases h with h | ⟨h, h'⟩
    · rw [c1] at h; cases h
    · rw [eqL_iff] at h
      have d1 : ltT t s = false := by
        cases g : ltT t s
        · rfl
        · -- t ahead of s, s level with u: t ahead of u
          have : ltT t u = true := Classical.byContradiction fun q => by
            have := t3 _ _ _ (bf q) h.2
            rw [g] at this; cases this
          rw [bf b1] at this; cases this
      have e1 := (eqL_iff s t).2 ⟨bf a1, d1⟩
      have d2 : ltT u t = false := bf fun g => by
        have : ltT u s = true := Classical.byContradiction fun q => by
          have := t3 _ _ _ (bf q) (bf a1); exact absurd g (bt this)
        rw [h.2] at this; cases this
      have e2 := (eqL_iff t u).2 ⟨bf b1, d2⟩
      have := a2 e1
      have := b2 e2
      omega
/-- The trapezes that are there. -/
def liveT (P : List Pc) : List Tz := (P.filter fun p => !p.g).map (·.t)
/-- The answer of All: those that are there, in order. -/
def AllP (P : List Pc) (l : List Tz) : Prop := l.Perm (liveT P) ∧ l.Pairwise fun a b => ltA b a = false
end Go.Proofs.Ytlhmjhildlnokaa

/-
  The lines of a right plan; what is at a point; the same lines, the same trapezes.
-/
namespace Go.Proofs.Ytlhmjhildlnokaa
set_option linter.unusedVariables false
set_option linter.unusedSimpArgs false
open Go.RowKit Go.Sort Go.Shelf
variable {vs : List Vt} {es : List Eg} {S S' : List (Int × Sg)} {N N' : List Nd} {P P' : List Pc}
/-! ### The lines of a right plan -/
theorem seg_ends (H : RightP vs es) {e : Eg} (he : e ∈ es) : segZ vs e.a e.b = ⟨loP vs e, hiP vs e⟩ := by
  have hE := H.each e he
  have i1 := inP_b (rpt_in H.verts hE.2.1.2.1)
  have i2 := inP_b (rpt_in H.verts hE.2.1.2.2)
  have hne := rpt_ne H.verts hE.2.1.1 hE.2.1.2.1 hE.2.1.2.2
  have hx : Xi (rpt vs e.a) ≠ Xi (rpt vs e.b) := fun q => hne (Xi_inj i1 i2 q)
  unfold segZ loP hiP
  by_cases h : Xi (rpt vs e.a) < Xi (rpt vs e.b)
  · rw [if_pos h, if_pos h, if_neg]
    rw [less_X i2 i1, Xr_lt]; omega
  · rw [if_neg h, if_neg h, if_pos]
    rw [less_X i2 i1, Xr_lt]; omega
/-- These lines are the plan's, each once. -/
structure OfPlan (vs : List Vt) (es : List Eg) (S : List (Int × Sg)) : Prop where
  keys : (S.map (·.1)).Nodup
  mem : ∀ q ∈ S, ∃ e ∈ es, q = (e.id, segZ vs e.a e.b)
theorem vt_of {id : Int} (h : (vs.find? fun v => v.id == id).isSome = true) : ∃ v ∈ vs, rpt vs id = v.p := by
  obtain ⟨v, hv⟩ := Option.isSome_iff_exists.1 h
  exact ⟨v, List.mem_of_find?_eq_some hv, by unfold rpt; rw [hv]; rfl⟩
theorem OfPlan.ok (H : RightP vs es) (h : OfPlan vs es S) : SOk S := by
  have lnq : ∀ e ∈ es, lnS (segZ vs e.a e.b) = lnE vs e := fun e he => by rw [seg_ends H he]; rfl
  refine ⟨fun q hq => ?_, h.keys, fun q hq => ?_, fun q hq r hr hne => ?_, fun q hq r hr e he hs => ?_⟩
  · obtain ⟨e, he, rfl⟩ := h.mem q hq
    have := (H.each e he).1
    show e.id ≠ 0
    omega
  · obtain ⟨e, he, rfl⟩ := h.mem q hq
    rw [seg_ends H he]
    exact edge_in H he
  · obtain ⟨e, he, rfl⟩ := h.mem q hq
    obtain ⟨f, hf, rfl⟩ := h.mem r hr
    rw [lnq e he, lnq f hf]
    exact lines_sep H he hf (fun q => hne (by rw [q]))
  · obtain ⟨g, hg, rfl⟩ := h.mem q hq
    obtain ⟨f, hf, rfl⟩ := h.mem r hr
    simp only at hs he ⊢
    rw [lnq g hg] at hs ⊢
    rw [seg_ends H hf] at he
    have hE := H.each f hf
    obtain ⟨v1, m1, e1⟩ := vt_of hE.2.1.2.1
    obtain ⟨v2, m2, e2⟩ := vt_of hE.2.1.2.2
    have hv : ∃ v ∈ vs, e = v.p := by
      rcases ends_two vs f with ⟨h1, h2⟩ | ⟨h1, h2⟩ <;> rw [h1, h2] at he <;> rcases he with he | he
      · exact ⟨v1, m1, he.trans e1⟩
      · exact ⟨v2, m2, he.trans e2⟩
      · exact ⟨v2, m2, he.trans e2⟩
      · exact ⟨v1, m1, he.trans e1⟩
    obtain ⟨v, hv, rfl⟩ := hv
    exact off_line H hg hv (Xr_lt.1 hs.1) (Xr_lt.1 hs.2)

theorem Desc.toZ (O : SOk S) {q : Pt} (iq : InP q) {k n : Nat} {r : Ans} (h : Desc N S (Xr q) (Yr q) k n r) : DescZ N S q k n r := by
  have ts : ∀ {id : Int} {s : Sg}, (id, s) ∈ S → sgOf S id = s ∧ (turnB s.a s.b q = 1 ↔ (lnS s).at (Xr q) < Yr q) ∧ (turnB s.a s.b q = -1 ↔ Yr q < (lnS s).at (Xr q)) ∧ (turnB s.a s.b q = 0 ↔ Yr q = (lnS s).at (Xr q)) := fun {id s} hs => by
    have r := O.rng _ hs
    obtain ⟨a, b, c⟩ := turn_sign (c := q) r.1 r.2.1 iq (Xr_lt.2 r.2.2)
    have pm := turnB_pm s.a s.b q
    simp only at a b c
    refine ⟨sgOf_mem O hs, ?_, ?_, c⟩
    · show _ ↔ (lnOf s.a s.b).at _ < _
      rw [← a]; omega
    · show _ ↔ _ < (lnOf s.a s.b).at _
      rw [← b]; omega
  induction h with
  | leaf h hk => exact .leaf h hk
  | ptL h hk hp hx hm _ ih => exact .ptL h hk ((less_X iq hp).2 hx) hm ih
  | ptR h hk hp hx hm _ ih =>
    refine .ptR h hk ?_ hm ih
    cases e : lessB q _
    · rfl
    · have := (less_X iq hp).1 e; exact absurd hx (by grind)
  | lnU h hk hs hy hm _ ih =>
    obtain ⟨e, t1, _⟩ := ts hs
    exact .lnU h hk (by rw [e]; exact t1.2 hy) hm ih
  | lnD h hk hs hy hm _ ih =>
    obtain ⟨e, _, t1, _⟩ := ts hs
    exact .lnD h hk (by rw [e]; exact t1.2 hy) hm ih
  | on h hk hs hy =>
    obtain ⟨e, _, _, t1⟩ := ts hs
    exact .on h hk (by rw [e]; exact t1.2 hy)
/-- A point stands in a trapeze, as it is asked in whole numbers. -/
structure InZ (S : List (Int × Sg)) (t : Tz) (q : Pt) : Prop where
  l : t.hl = true → lessB t.l q = true
  r : t.hr = true → lessB q t.r = true
  b : t.bot ≠ 0 → 0 < turnZ (sgOf S t.bot).a (sgOf S t.bot).b q
  t : t.top ≠ 0 → turnZ (sgOf S t.top).a (sgOf S t.top).b q < 0
theorem turnB_in {a b c : Pt} (ia : InP a) (ib : InP b) (ic : InP c) : turnB a b c = turnZ a b c := by unfold turnB; rw [inB_t ia, inB_t ib, inB_t ic]; rfl
theorem inZ_iff (O : SOk S) {t : Tz} (V : Val S t) {q : Pt} (iq : InP q) : InZ S t q ↔ InT S t (Xr q) (Yr q) := by
  have kb : t.bot ≠ 0 → (0 < turnZ (sgOf S t.bot).a (sgOf S t.bot).b q ↔ (botL S t).at (Xr q) < Yr q) := fun h => by
    have r := O.rng _ (V.bot h).1
    rw [← turnB_in r.1 r.2.1 iq]
    exact (turn_sign (c := q) r.1 r.2.1 iq (Xr_lt.2 r.2.2)).1
  have kt : t.top ≠ 0 → (turnZ (sgOf S t.top).a (sgOf S t.top).b q < 0 ↔ Yr q < (topL S t).at (Xr q)) := fun h => by
    have r := O.rng _ (V.top h).1
    rw [← turnB_in r.1 r.2.1 iq]
    exact (turn_sign (c := q) r.1 r.2.1 iq (Xr_lt.2 r.2.2)).2.1
  constructor
  · rintro ⟨a, b, c, d⟩
    exact ⟨⟨fun h => (less_X (O.endIn (V.wl h).1) iq).1 (a h), fun h => (less_X iq (O.endIn (V.wr h).1)).1 (b h)⟩, fun h => (kb h).1 (c h), fun h => (kt h).1 (d h)⟩
  · rintro ⟨⟨a, b⟩, c, d⟩
    exact ⟨fun h => (less_X (O.endIn (V.wl h).1) iq).2 (a h), fun h => (less_X iq (O.endIn (V.wr h).1)).2 (b h), fun h => (kb h).2 (c h), fun h => (kt h).2 (d h)⟩
/-- What is at a point. -/
theorem TI.find (T : TI S N P) {q : Pt} (iq : InP q) (hq : ¬ EndS S q) :
    (∃ k id sg, (id, sg) ∈ S ∧ (lnS sg).spans (Xr q) ∧ Yr q = (lnS sg).at (Xr q) ∧ DescZ N S q k 0 (.on id)) ∨
    (∃ (k i : Nat) (p : Pc), P[i]? = some p ∧ p.g = false ∧ N[p.n.toNat]? = some (lfN i) ∧ InT S p.t (Xr q) (Yr q) ∧ DescZ N S q k 0 (.leaf p.n.toNat)) := by
  rcases T.down (Xr q) (Yr q) (fun e he hx => hq (by
    have := Xi_inj iq (T.ok.endIn he) (Xr_eq.1 hx)
    rw [this]; exact he)) with ⟨k, id, sg, h1, h2, h3, h4⟩ | ⟨k, i, p, h1, h2, h3, h4⟩
  · exact .inl ⟨k, id, sg, h1, h2, h3, h4.toZ T.ok iq⟩
  · exact .inr ⟨k, i, p, h1, h2, T.leaf i p h1 h2, h3, h4.toZ T.ok iq⟩
/-! ### The same lines, the same trapezes -/
theorem sgOf_perm (h : S.Perm S') (O : SOk S) (id : Int) : sgOf S id = sgOf S' id := by unfold sgOf; rw [getA_perm h O.keys]
theorem inT_perm (h : S.Perm S') (O : SOk S) {t : Tz} {x y : Rat} : InT S t x y ↔ InT S' t x y := by
  have e1 : botL S t = botL S' t := by unfold botL; rw [sgOf_perm h O]
  have e2 : topL S t = topL S' t := by unfold topL; rw [sgOf_perm h O]
  constructor
  · rintro ⟨a, b, c⟩; exact ⟨a, by rw [← e1]; exact b, by rw [← e2]; exact c⟩
  · rintro ⟨a, b, c⟩; exact ⟨a, by rw [e1]; exact b, by rw [e2]; exact c⟩
theorem endS_perm (h : S.Perm S') {e : Pt} : EndS S e ↔ EndS S' e := by
  unfold EndS
  constructor
  · rintro ⟨q, hq, he⟩; exact ⟨q, h.mem_iff.1 hq, he⟩
  · rintro ⟨q, hq, he⟩; exact ⟨q, h.mem_iff.2 hq, he⟩
theorem val_perm (h : S.Perm S') (O : SOk S) {t : Tz} (V : Val S' t) : Val S t := by
  have e1 : botL S t = botL S' t := by unfold botL; rw [sgOf_perm h O]
  have e2 : topL S t = topL S' t := by unfold topL; rw [sgOf_perm h O]
  refine ⟨fun hb => ?_, fun hb => ?_, V.lr, fun h1 h2 x hx => ?_, fun hl => ?_, fun hl => ?_, fun q hq x hx hI => ?_, V.zl, V.zr⟩
  · rw [sgOf_perm h O]
    obtain ⟨a, b⟩ := V.bot hb
    exact ⟨h.mem_iff.2 a, b⟩
  · rw [sgOf_perm h O]
    obtain ⟨a, b⟩ := V.top hb
    exact ⟨h.mem_iff.2 a, b⟩
  · rw [e1, e2]; exact V.bt h1 h2 x hx
  · rw [e1, e2]
    obtain ⟨a, b⟩ := V.wl hl
    exact ⟨(endS_perm h).2 a, b⟩
  · rw [e1, e2]
    obtain ⟨a, b⟩ := V.wr hl
    exact ⟨(endS_perm h).2 a, b⟩
  · exact V.free q (h.mem_iff.1 hq) x hx ((inT_perm h O).1 hI)
theorem mem_live {t : Tz} : t ∈ liveT P ↔ ∃ (i : Nat) (p : Pc), P[i]? = some p ∧ p.g = false ∧ p.t = t := by
  unfold liveT
  rw [List.mem_map]
  constructor
  · rintro ⟨p, hp, rfl⟩
    obtain ⟨h1, h2⟩ := List.mem_filter.1 hp
    obtain ⟨i, hi⟩ := List.getElem?_of_mem h1
    exact ⟨i, p, hi, by simpa using h2, rfl⟩
  · rintro ⟨i, p, h1, h2, rfl⟩
    exact ⟨p, List.mem_filter.2 ⟨List.mem_of_getElem? h1, by rw [h2]; rfl⟩, rfl⟩
theorem TI.nodup (T : TI S N P) : (liveT P).Nodup := by
  unfold liveT
  have h : P.Pairwise fun p q => p.g = false → q.g = false → p.t ≠ q.t := by
    rw [List.pairwise_iff_getElem]
    intro i j hi hj hij h1 h2 e
    have := T.dist i j _ _ (List.getElem?_eq_getElem hi) (List.getElem?_eq_getElem hj) h1 h2 e
    omega
  rw [List.Nodup, List.pairwise_map]
  have h2 := h.filter fun p => !p.g
  refine List.Pairwise.imp_of_mem ?_ h2
  intro a b ha hb hab
  exact hab (by simpa using (List.mem_filter.1 ha).2) (by simpa using (List.mem_filter.1 hb).2)
theorem TI.sub (T : TI S N P) (T' : TI S' N' P') (h : S.Perm S') {t : Tz} (ht : t ∈ liveT P) : t ∈ liveT P' := by
  obtain ⟨i, p, h1, h2, rfl⟩ := mem_live.1 ht
  have V := T.val i p h1 h2
  obtain ⟨x, hx, hE⟩ := V.someX (endsX S)
  obtain ⟨y, hy⟩ := V.someY hx
  rcases T'.down x y (fun e he => endsX_iff.1 hE e ((endS_perm h).2 he)) with ⟨_, id, sg, g1, g2, g3, _⟩ | ⟨_, j, p', g1, g2, g3, _⟩
  · exact absurd (by rw [← g3]; exact hy) (V.free (id, sg) (h.mem_iff.2 g1) x g2)
  · have := val_uniq T.ok V (val_perm h T.ok (T'.val j p' g1 g2)) hy ((inT_perm h T.ok).2 g3)
    exact mem_live.2 ⟨j, p', g1, g2, this.symm⟩
theorem perm_of_nodup {α : Type} [DecidableEq α] {l m : List α} (h1 : l.Nodup) (h2 : m.Nodup) (h : ∀ a, a ∈ l ↔ a ∈ m) : l.Perm m := (List.perm_ext_iff_of_nodup h1 h2).2 h
theorem TI.perm (T : TI S N P) (T' : TI S' N' P') (h : S.Perm S') : (liveT P).Perm (liveT P') :=
  perm_of_nodup T.nodup T'.nodup fun t => ⟨T.sub T' h, T'.sub T h.symm⟩
/-- One trapeze about a point. -/
theorem TI.only (T : TI S N P) {q : Pt} (iq : InP q) {i j : Nat} {p p' : Pc} (h1 : P[i]? = some p) (h2 : p.g = false) (h3 : P[j]? = some p') (h4 : p'.g = false) (g : InZ S p.t q) (g' : InZ S p'.t q) : i = j := by
  have V := T.val i p h1 h2
  have V' := T.val j p' h3 h4
  exact T.dist i j p p' h1 h3 h2 h4 (val_uniq T.ok V V' ((inZ_iff T.ok V iq).1 g) ((inZ_iff T.ok V' iq).1 g'))
/-- What is found with the same lines is the same. -/
theorem TI.same (T : TI S N P) (T' : TI S' N' P') (h : S.Perm S') {q : Pt} (iq : InP q) :
    (∀ {id id' sg sg'}, (id, sg) ∈ S → (id', sg') ∈ S' → (lnS sg).spans (Xr q) → (lnS sg').spans (Xr q) → Yr q = (lnS sg).at (Xr q) → Yr q = (lnS sg').at (Xr q) → id = id') ∧
    (∀ {id sg} {j : Nat} {p' : Pc}, (id, sg) ∈ S → (lnS sg).spans (Xr q) → Yr q = (lnS sg).at (Xr q) → P'[j]? = some p' → p'.g = false → InT S' p'.t (Xr q) (Yr q) → False) ∧
    (∀ {i j : Nat} {p p' : Pc}, P[i]? = some p → p.g = false → InT S p.t (Xr q) (Yr q) → P'[j]? = some p' → p'.g = false → InT S' p'.t (Xr q) (Yr q) → p.t = p'.t) := by
  refine ⟨fun {id id' sg sg'} h1 h2 s1 s2 e1 e2 => ?_, fun {id sg j p'} h1 s1 e1 g1 g2 g3 => ?_, fun {i j p p'} h1 h2 h3 g1 g2 g3 => ?_⟩
  · by_cases e : (id, sg) = (id', sg')
    · exact congrArg Prod.fst e
    · exact absurd (e1.symm.trans e2) (T.ok.sep _ h1 _ (h.mem_iff.2 h2) e _ s1 s2)
  · have V' := T'.val j p' g1 g2
    exact V'.free _ (h.mem_iff.1 h1) _ s1 (by rw [← e1]; exact g3)
  · exact val_uniq T.ok (T.val i p h1 h2) (val_perm h T.ok (T'.val j p' g1 g2)) h3 ((inT_perm h T.ok).2 g3)
end Go.Proofs.Ytlhmjhildlnokaa

/-
  All trapezes, in order.
-/
namespace Go.Proofs.Ytlhmjhildlnokaa
set_option linter.unusedVariables false
set_option linter.unusedSimpArgs false
open Go.RowKit Go.Sort Go.Shelf
variable {vs : List Vt} {es : List Eg} {S S' : List (Int × Sg)} {N N' : List Nd} {P P' : List Pc}
/-- Two trapezes that begin at one wall between the same lines are one. -/
theorem all_anti (O : SOk S) {t t' : Tz} (V : Val S t) (V' : Val S t') (h1 : ltA t t' = false) (h2 : ltA t' t = false) : t = t' := by
  have bt : ∀ {b : Bool}, b = false → ¬ b = true := fun {b} h => by rw [h]; simp
  have n1 := bt h1
  have n2 := bt h2
  rw [ltA_iff] at n1 n2
  simp only [not_or, not_and] at n1 n2
  have z : leftsZ t t' = 0 := (eqL_iff _ _).2 ⟨by cases e : ltT t t'; rfl; exact absurd e n1.1, by cases e : ltT t' t; rfl; exact absurd e n2.1⟩
  have z' : leftsZ t' t = 0 := by rw [eqL_iff] at z ⊢; exact ⟨z.2, z.1⟩
  have m1 := n1.2 z
  have m2 := n2.2 z'
  have eb : t.bot = t'.bot := by omega
  have et : t.top = t'.top := by omega
  obtain ⟨ehl, el⟩ := lefts_zero.1 z
  -- a place right of the wall, within both
  have hx : ∃ x, InX t x ∧ InX t' x := by
    cases hl : t.hl
    · have hl' : t'.hl = false := ehl ▸ hl
      obtain ⟨x, hx⟩ : ∃ x : Rat, (t.hr = true → x < Xr t.r) ∧ (t'.hr = true → x < Xr t'.r) := by
        by_cases g : Xr t.r < Xr t'.r
        · exact ⟨Xr t.r - 1, fun _ => by grind, fun _ => by grind⟩
        · exact ⟨Xr t'.r - 1, fun _ => by grind, fun _ => by grind⟩
      exact ⟨x, ⟨fun h => absurd (hl.symm.trans h) (by simp), hx.1⟩, ⟨fun h => absurd (hl'.symm.trans h) (by simp), hx.2⟩⟩
    · have hl' : t'.hl = true := ehl ▸ hl
      have e := el hl
      have n1 : Nr (Xr t.l) fun x => t.hr = true → x < Xr t.r := Nr.imp fun h => Nr.lt (Xr_lt.2 (V.lr hl h))
      have n2 : Nr (Xr t.l) fun x => t'.hr = true → x < Xr t'.r := Nr.imp fun h => Nr.lt (by rw [e]; exact Xr_lt.2 (V'.lr hl' h))
      obtain ⟨x, g1, g2, g3⟩ := (n1.and n2).right
      exact ⟨x, ⟨fun _ => g1, g2⟩, ⟨fun _ => by rw [← e]; exact g1, g3⟩⟩
  obtain ⟨x, i1, i2⟩ := hx
  obtain ⟨y, hy⟩ := V.someY i1
  refine val_uniq O V V' hy ⟨i2, fun h => ?_, fun h => ?_⟩
  · have := hy.lo (by rw [eb]; exact h)
    unfold botL at this ⊢
    rw [eb] at this; exact this
  · have := hy.hi (by rw [et]; exact h)
    unfold topL at this ⊢
    rw [et] at this; exact this
/-- A list in order is one. -/
theorem sorted_one {α : Type} {lt : α → α → Bool} : ∀ {l m : List α}, l.Perm m → l.Pairwise (fun a b => lt b a = false) → m.Pairwise (fun a b => lt b a = false) → (∀ a ∈ l, ∀ b ∈ l, lt a b = false → lt b a = false → a = b) → l = m
  | [], m, h, _, _, _ => by rw [List.nil_perm.1 h]
  | a :: l, [], h, _, _, _ => by have := h.length_eq; simp at this
  | a :: l, b :: m, h, h1, h2, h3 => by
    have hb : b ∈ a :: l := h.mem_iff.2 (by simp)
    have ha : a ∈ b :: m := h.mem_iff.1 (by simp)
    have e : a = b := by
      rcases List.mem_cons.1 hb with hb' | hb'
      · exact hb'.symm
      · rcases List.mem_cons.1 ha with ha' | ha'
        · exact ha'
        · exact h3 a (by simp) b hb ((List.pairwise_cons.1 h2).1 a ha') ((List.pairwise_cons.1 h1).1 b hb')
    subst e
    rw [sorted_one ((List.perm_cons a).1 h) (List.pairwise_cons.1 h1).2 (List.pairwise_cons.1 h2).2 fun x hx y hy => h3 x (by simp [hx]) y (by simp [hy])]
theorem allP_same (T : TI S N P) (T' : TI S' N' P') (h : S.Perm S') {l l' : List Tz} (a : AllP P l) (a' : AllP P' l') : l = l' := by
  refine sorted_one (a.1.trans ((T.perm T' h).trans a'.1.symm)) a.2 a'.2 fun t ht u hu g1 g2 => ?_
  obtain ⟨i, p, h1, h2, rfl⟩ := mem_live.1 (a.1.mem_iff.1 ht)
  obtain ⟨j, q, h3, h4, rfl⟩ := mem_live.1 (a.1.mem_iff.1 hu)
  exact all_anti T.ok (T.val i p h1 h2) (T.val j q h3 h4) g1 g2
end Go.Proofs.Ytlhmjhildlnokaa

/-
  What was built: an index of the plan's lines.
-/
namespace Go.Proofs.Ytlhmjhildlnokaa
set_option linter.unusedVariables false
set_option linter.unusedSimpArgs false
open Go.RowKit Go.Sort Go.Shelf
variable {vs : List Vt} {es : List Eg} {L L' : List (Int × Sg)} {X Y : IxS} {os : List Int}
/-! ### What was built -/
theorem PutsR.ti (H : RightP vs es) (h : PutsR L X) : OfPlan vs es L → TI L X.N X.P := by
  induction h with
  | nil => exact fun _ => TI.start
  | put h hid hp ih =>
    intro O
    have O' : OfPlan vs es _ := ⟨(List.nodup_cons.1 O.keys).2, fun q hq => O.mem q (List.mem_cons_of_mem _ hq)⟩
    obtain ⟨all, h1, h2, h3, h4, _⟩ := hp
    rw [h.S_] at h1
    rw [h2, h3]
    exact TI.put ⟨O.ok H, ih O', h1⟩
theorem getA_cons2 {K V : Type} [DecidableEq K] (A : List (K × V)) (k k' : K) (v : V) : getA ((k, v) :: A) k' = if k' = k then some v else getA A k' := by
  have : ∀ (l : List (K × V)) (i : Nat), (firstI k' l (i + 1)).map (·.2) = (firstI k' l i).map (·.2) := by
    intro l
    induction l with
    | nil => intro i; rfl
    | cons a l ih =>
      intro i
      obtain ⟨a1, a2⟩ := a
      unfold firstI
      split
      · rfl
      · exact ih (i + 1)
  unfold getA
  rw [firstI]
  split
  · rfl
  · exact this A 0
theorem getA_cut {K V : Type} [DecidableEq K] (k k' : K) : ∀ (A : List (K × V)), getA (cutA A k) k' = if k' = k then none else getA A k'
  | [] => by simp [cutA, getA, firstI]
  | (a, v) :: A => by
    have ih := getA_cut k k' A
    by_cases e : a = k
    · have : cutA ((a, v) :: A) k = cutA A k := by unfold cutA; rw [List.filter_cons_of_neg (by simpa using e)]
      rw [this, ih, getA_cons2]
      subst e
      split
      · rfl
      · rfl
    · have : cutA ((a, v) :: A) k = (a, v) :: cutA A k := by unfold cutA; rw [List.filter_cons_of_pos (by simpa using e)]
      rw [this, getA_cons2, getA_cons2, ih]
      by_cases h1 : k' = a
      · rw [if_pos h1, if_pos h1, if_neg (by rw [h1]; exact e)]
      · rw [if_neg h1, if_neg h1]
theorem PutsR.ends (h : PutsR L X) (p : Pt) : (getA X.E p).getD false = true ↔ EndS L p := by
  induction h with
  | nil =>
    constructor
    · intro h; simp [ix0, getA, firstI] at h
    · rintro ⟨q, hq, _⟩; simp at hq
  | @put l X Y id s h hid hp ih =>
    obtain ⟨all, _, _, _, _, h5⟩ := hp
    rw [h5, getA_cons2, getA_cut, getA_cons2, getA_cut]
    constructor
    · intro g
      by_cases e : p = s.b
      · exact ⟨(id, s), by simp, .inr e⟩
      · rw [if_neg e, if_neg e] at g
        by_cases e2 : p = s.a
        · exact ⟨(id, s), by simp, .inl e2⟩
        · rw [if_neg e2, if_neg e2] at g
          exact (ih.1 g).cons
    · rintro ⟨q, hq, hp⟩
      rcases List.mem_cons.1 hq with rfl | hq
      · rcases hp with rfl | rfl
        · by_cases e : s.a = s.b
          · rw [if_pos e]; rfl
          · rw [if_neg e, if_neg e, if_pos rfl]; rfl
        · rw [if_pos rfl]; rfl
      · have := ih.2 ⟨q, hq, hp⟩
        by_cases e : p = s.b
        · rw [if_pos e]; rfl
        · rw [if_neg e, if_neg e]
          by_cases e2 : p = s.a
          · rw [if_pos e2]; rfl
          · rw [if_neg e2, if_neg e2]; exact this
theorem segs_of (hid : ∀ id ∈ os, (es.find? fun e => e.id == id).isSome = true) (hn : os.Nodup) : OfPlan vs es (segsOf vs es os).reverse := by
  refine ⟨?_, fun q hq => ?_⟩
  · rw [List.map_reverse, segs_keys]; exact (List.reverse_perm os).nodup_iff.2 hn
  · rw [List.mem_reverse] at hq
    unfold segsOf at hq
    obtain ⟨id, hi, rfl⟩ := List.mem_map.1 hq
    obtain ⟨x, y, h1, h2⟩ := edge_find (hid id hi)
    exact ⟨_, h2, by unfold segI; rw [h1]⟩
theorem BldI.ti (H : RightP vs es) (I : BldI vs es os X) : TI (segsOf vs es os).reverse X.N X.P := I.puts.ti H (segs_of I.ids I.nodup)
/-- All edges' lines. -/
def edgeL (vs : List Vt) (es : List Eg) : List (Int × Sg) := es.map fun e => (e.id, segZ vs e.a e.b)
theorem ids_nodup (H : RightP vs es) : (es.map (·.id)).Nodup := by
  rw [List.Nodup, List.pairwise_map]
  exact H.two.imp fun h => by have := h.1; omega
theorem find_edge (H : RightP vs es) {e : Eg} (he : e ∈ es) : (es.find? fun f => f.id == e.id) = some e := by
  have hs : (es.find? fun f => f.id == e.id).isSome = true := List.find?_isSome.2 ⟨e, he, by simp⟩
  obtain ⟨x, y, h1, h2⟩ := edge_find hs
  rw [h1]
  have hn := ids_nodup H
  obtain ⟨i, hi⟩ := List.getElem?_of_mem h2
  obtain ⟨j, hj⟩ := List.getElem?_of_mem he
  have : i = j := (List.getElem?_inj (l := es.map (·.id)) (by rw [List.length_map]; exact (List.getElem?_eq_some_iff.1 hi).1) hn).1 (by rw [List.getElem?_map, List.getElem?_map, hi, hj]; rfl)
  rw [this, hj] at hi
  exact hi.symm
theorem ord_perm (H : RightP vs es) (O : OrdP es os) : os.Perm (es.map (·.id)) := by
  have sub : ∀ id ∈ os, id ∈ es.map (·.id) := fun id hi => by
    obtain ⟨x, y, _, h2⟩ := edge_find (O.2.1 id hi)
    exact List.mem_map.2 ⟨_, h2, rfl⟩
  -- as many, each once
  have key : ∀ (l m : List Int), l.Nodup → (∀ x ∈ l, x ∈ m) → l.length = m.length → l.Perm m := by
    intro l
    induction l with
    | nil => intro m _ _ h; rw [List.length_eq_zero_iff.1 h.symm]
    | cons a l ih =>
      intro m h1 h2 h3
      have ha := h2 a (by simp)
      have h1' := List.nodup_cons.1 h1
      have hl := List.length_pos_of_mem ha
      have := ih (m.erase a) h1'.2 (fun x hx => (List.mem_erase_of_ne (by rintro rfl; exact h1'.1 hx)).2 (h2 x (by simp [hx]))) (by
        rw [List.length_erase_of_mem ha]; simp only [List.length_cons] at h3; omega)
      exact (this.cons a).trans (List.perm_cons_erase ha).symm
  exact key os _ O.2.2 sub (by rw [List.length_map]; exact O.1)
theorem segs_perm (H : RightP vs es) (O : OrdP es os) : (segsOf vs es os).reverse.Perm (edgeL vs es) := by
  refine (List.reverse_perm _).trans ?_
  unfold segsOf
  refine ((ord_perm H O).map _).trans ?_
  rw [List.map_map]
  unfold edgeL
  have : es.map ((fun id => (id, segI vs es id)) ∘ fun x => x.id) = es.map fun e => (e.id, segZ vs e.a e.b) := List.map_congr_left fun e he => by
    show (e.id, segI vs es e.id) = _
    unfold segI
    rw [find_edge H he]
  rw [this]
end Go.Proofs.Ytlhmjhildlnokaa

/-
  The walk of the index's All: the trapezes that are there, sorted.
-/
namespace Go.Proofs.Ytlhmjhildlnokaa
set_option linter.unusedVariables false
set_option linter.unusedSimpArgs false
open Go.RowKit Go.Sort Go.Shelf

set_option maxRecDepth 100000 in
set_option maxHeartbeats 8000000 in
theorem cmpA_any (s t : Tz) (w : World) : Calls Try.prog 65 #[tzV s, tzV t] w fun e w' => e = .returned (.int .i64 (allZ s t)) ∧ Below w.heap.size w w' := by
  obtain ⟨st, sb, shl, shr, ⟨slx, sly⟩, ⟨srx, sry⟩⟩ := s
  obtain ⟨tt, tb, thl, thr, ⟨tlx, tly⟩, ⟨trx, try_⟩⟩ := t
  simp only [tzV]
  have H := Own.start w
  have h1 := fun w => lefts_any ⟨st, sb, shl, shr, ⟨slx, sly⟩, ⟨srx, sry⟩⟩ ⟨tt, tb, thl, thr, ⟨tlx, tly⟩, ⟨trx, try_⟩⟩ w
  simp only [tzV] at h1
  have hz : allZ ⟨st, sb, shl, shr, ⟨slx, sly⟩, ⟨srx, sry⟩⟩ ⟨tt, tb, thl, thr, ⟨tlx, tly⟩, ⟨trx, try_⟩⟩ = orZ [leftsZ ⟨st, sb, shl, shr, ⟨slx, sly⟩, ⟨srx, sry⟩⟩ ⟨tt, tb, thl, thr, ⟨tlx, tly⟩, ⟨trx, try_⟩⟩, cmpZ sb tb, cmpZ st tt] := rfl
  generalize leftsZ ⟨st, sb, shl, shr, ⟨slx, sly⟩, ⟨srx, sry⟩⟩ ⟨tt, tb, thl, thr, ⟨tlx, tly⟩, ⟨trx, try_⟩⟩ = u0 at *
  have h2 := fun w => cmpCompare_any sb tb w
  have h3 := fun w => cmpCompare_any st tt w
  generalize cmpZ sb tb = u1 at *
  generalize cmpZ st tt = u2 at *
  have HZ := Lib.hid hz
  clear hz
  go_enter Try.func65, Try.ntmps65
  have tk0 : True := trivial
  have tk1 : True := trivial
  have tk2 : True := trivial
  go_wp2_with (first
    | (go_at_call 66; (with_reducible refine (cmpOr3 H).mono ?_); rintro e w3 ⟨rfl, hb⟩; replace H := H.ext hb; clear hb; dsimp only; (refine hK _ _ ⟨_, H, by repeat first | exact .here | apply Suf.there⟩ ?_; clear hK K; (try simp only [Act.put, List.setIfInBounds_toArray, List.set_cons_succ, List.set_cons_zero])))
    | (guard_target =~ Code.wp _ (Code.region 1 _ true) _ _ _; refine region_treeC0 1 (G := True) (.q 0 (.q 1 (.q 2 (.q 3 (.q 4 (.q 5 (.q 6 (.q 7 (.q 8 (.q 9 (.q 10 (.q 11 (.q 12 (.e 13 (.e 14 (.q 15 .nil)))))))))))))))) (by kernel_rfl) (by intro c a d v w h; cases d <;> first | exact h | exact hQ h) (by kernel_rfl) H ⟨trivial⟩ (fun _ w3 H2 => ?_); (clear H; (try clear w2); revert w3; intro w2 H))
    | (guard_target =~ wpList _ _ _ (_ :: _) _ _; ((guard_target =~ wpList _ _ _ (Oper.mk _ (.box _ _) _ _ _ _ :: _) _ _; refine BigFrame.wpList_want rfl (fun K hK => ?_); refine o_box rfl H rfl (fun w3 b2 he H2 => hK _ _ ?_)); clear hK K he; clear H; (try clear w2); revert w3; intro w2 H; simp [Act.eval, Value.cells, setL, List.getD] at H; (first | (clear tk0; rename Nat => b1) | (clear tk1; rename Nat => b2))); simp only [Act.put, List.setIfInBounds_toArray, List.set_cons_succ, List.set_cons_zero])
    | (guard_target =~ wpTreeC _ _ _ _ _ _ _; first | (guard_target =~ wpTreeC _ _ _ (Tr.e _ Tr.nil) _ _ _; refine treeC_last (by decide +kernel) H rfl rfl (fun w3 H2 K hK => ?_); clear H; (try clear w2); (revert w3; intro w2 H); simp only [List.getElem_toArray, List.getElem_cons_succ, List.getElem_cons_zero]; (first | fail); simp only [Act.put, List.setIfInBounds_toArray, List.set_cons_succ, List.set_cons_zero]) | (guard_target =~ wpTreeC _ _ _ (Tr.q _ _) _ _ _; first | (refine treeC_quiet ⟨_, H, by repeat first | exact .here | apply Suf.there⟩ rfl rfl rfl (fun K hK => ?_); simp only [List.getElem_toArray, List.getElem_cons_succ, List.getElem_cons_zero]; first | (guard_target =~ Oper.quiet _ (Oper.mk _ (.load _ _) _ _ _ _) _ _ _; (first | (refine q_loadC (v := ?_) (row := ?_) rfl rfl ?_ ?_ ?_ (hK _ ?_); rotate_left 2; (repeat first | exact .head _ | apply List.Mem.tail); (exact rfl); (focus (intro _; simp; done))) | (refine q_loadNC (row := ?_) rfl rfl ?_ ?_ ?_ (hK _ ?_); rotate_left 1; (repeat first | exact .head _ | apply List.Mem.tail); (focus (intro _; simp; done)); (focus (intro _; simp; done)))); clear hK K; simp only [Act.put, List.setIfInBounds_toArray, List.set_cons_succ, List.set_cons_zero]) | (go_big_quiet_op; (try refine ⟨_, fun _ _ => rfl, ?_⟩); refine hK _ ?_; clear hK K)) | (refine treeC_call (v := ?_) ⟨_, H, by repeat first | exact .here | apply Suf.there⟩ rfl rfl (fun w3 H K hK => ?_) ?_; rotate_left 1; (focus (simp only [List.getElem_toArray, List.getElem_cons_succ, List.getElem_cons_zero]; first | (go_big_op; first | exact hK _ (Ext.refl _) | (go_at_call 67; (with_reducible refine (h1 _).mono ?_); rintro e w3 ⟨rfl, hb⟩; dsimp only; first | exact hK _ hb | exact hK _ (Ext.refl _)) | (go_at_call 68; (with_reducible refine (h2 _).mono ?_); rintro e w3 ⟨rfl, hb⟩; dsimp only; first | exact hK _ hb | exact hK _ (Ext.refl _)) | (go_at_call 68; (with_reducible refine (h3 _).mono ?_); rintro e w3 ⟨rfl, hb⟩; dsimp only; first | exact hK _ hb | exact hK _ (Ext.refl _)) | (go_at_call 66; (with_reducible refine (cmpOr3 H).mono ?_); rintro e w3 ⟨rfl, hb⟩; dsimp only; first | exact hK _ hb | exact hK _ (Ext.refl _))))); simp only [List.getElem_toArray, List.getElem_cons_succ, List.getElem_cons_zero, Act.put, List.setIfInBounds_toArray, List.set_cons_succ, List.set_cons_zero]) | (refine treeC_skip ⟨_, H, by repeat first | exact .here | apply Suf.there⟩ rfl rfl ?_; simp only [List.getElem_toArray, List.getElem_cons_succ, List.getElem_cons_zero, Act.put, List.setIfInBounds_toArray, List.set_cons_succ, List.set_cons_zero])) | (guard_target =~ wpTreeC _ _ _ (Tr.both _ _) _ _ _; refine treeC_both ?_ ?_) | (guard_target =~ wpTreeC _ _ _ (Tr.e _ _) _ _ _; first | (refine treeC_one H rfl rfl (fun w3 H2 K hK => ?_); clear H; (try clear w2); (revert w3; intro w2 H); simp only [List.getElem_toArray, List.getElem_cons_succ, List.getElem_cons_zero]; first | (((guard_target =~ Oper.wp _ (Oper.mk _ (.buildSlice _ _ _) _ _ _ _) _ _ _ _; refine o_buildSlice (C := ?_) (E := ?_) rfl rfl H ?_ rfl (fun w3 b2 he H2 => hK _ _ ⟨_, H2, ?_⟩ ?_); rotate_left 2; (focus (intro _; simp [go_sem, Instr.buildSlice]; with_reducible exact rfl))); (guard_target =~ Suf _ _; repeat first | exact .here | apply Suf.there); clear hK K he; clear H; (try clear w2); revert w3; intro w2 H; simp [Act.eval, Value.cells, setL, List.getD] at H; (clear tk2; rename Nat => b3)); simp only [Act.put, List.setIfInBounds_toArray, List.set_cons_succ, List.set_cons_zero]) | (go_big_op; (skip))) | (refine treeC_one_skip (fun w3 hx => ⟨_, H.ext hx, by repeat first | exact .here | apply Suf.there⟩) rfl rfl (fun w3 hx => ?_); replace H := H.ext hx; clear hx; (try clear w2); revert w3; intro w2 H; simp only [List.getElem_toArray, List.getElem_cons_succ, List.getElem_cons_zero, Act.put, List.setIfInBounds_toArray, List.set_cons_succ, List.set_cons_zero])) | (guard_target =~ wpTreeC _ _ _ Tr.nil _ _ _; refine treeC_nil H (fun w3 H2 => ?_); clear H; (try clear w2); revert w3; intro w2 H)))
  go_ret
  exact ⟨by rw [HZ.out]; rfl, H.below⟩
theorem sizeOf_tz (w : World) : (Go.sizeOf 73).run Try.prog w = .ok 8 w := by kernel_rfl
theorem agg_tz (w : World) : (isAgg 73).run Try.prog w = .ok true w := by kernel_rfl
theorem enter_all (args : Array Value) (w : World) : (callFunc 65 args).run Try.prog w = .ok (.enter 65 args) w := by kernel_rfl
theorem allF_swo : SWO (ltOf allZ) :=
  ⟨fun a => ltA_swo.1 a, fun {a b c} h g => ltA_swo.2.1 a b c h g, fun {a b c} h g => ltA_swo.2.2 a b c h g⟩
def tz0 : Tz := ⟨0, 0, false, false, ⟨0, 0⟩, ⟨0, 0⟩⟩
theorem sortT_any {B : Nat} {w0 w : World} {rest : List Res} {n : Nat} {v : Value} {L : List Tz} (hn : n = L.length) (hl : n ≤ 1000000) (H : Own B w0 w (.grow 73 8 v n (tR L) :: rest)) :
    Calls Try.prog 64 #[v, .func (.func 65) #[] #[]] w fun r w' =>
      r = .returned (.tuple #[]) ∧ ∃ L' : List Tz, L'.Perm L ∧ L'.Pairwise (fun a b => ltA b a = false) ∧ Own B w0 w' (.grow 73 8 v n (tR L') :: rest) := by
  by_cases hpos : n = 0
  · subst hpos
    have hnil : L = [] := List.length_eq_zero_iff.1 hn.symm
    subst hnil
    obtain ⟨A, c, rfl⟩ := H.growForm m0
    refine (AnyF.slices_SortFunc_none (P := Try.prog) { sortT with } A c _ w).mono ?_
    rintro r w' ⟨rfl, rfl⟩
    exact ⟨rfl, [], .refl _, .nil, H⟩
  letI : Inhabited Tz := ⟨tz0⟩
  obtain ⟨b, cap, rfl⟩ := H.growSome m0 (by omega) (by decide)
  have := sortK_any (enc := tz8) sortT (by decide) agg_tz sizeOf_tz (fun _ => rfl) (fun x u hu => by
      simp only [tz8, List.mem_cons, List.not_mem_nil, or_false] at hu
      rcases hu with rfl | rfl | rfl | rfl | rfl | rfl | rfl | rfl <;> rfl) allZ allF_swo 65 #[] enter_all hn hl H (fun W _ x y => cmpA_any x y W)
  refine this.mono ?_
  rintro r w' ⟨rfl, ys, h1, h2, H'⟩
  exact ⟨rfl, ys, h1, h2, H'⟩
theorem liveT_step {P : List Pc} {j : Nat} {p : Pc} (h : P[j]? = some p) : liveT (P.take (j + 1)) = if p.g = true then liveT (P.take j) else liveT (P.take j) ++ [p.t] := by
  unfold liveT
  rw [List.take_add_one, h, List.filter_append, List.map_append]
  cases hg : p.g <;> simp [hg]
theorem liveT_len (P : List Pc) (j : Nat) : (liveT (P.take j)).length ≤ j := by
  unfold liveT
  rw [List.length_map]
  exact Nat.le_trans (List.length_filter_le _ _) (by rw [List.length_take]; omega)
theorem tR_one (t : Tz) : tR [t] = [.int .i64 t.top, .int .i64 t.bot, .bool t.hl, .bool t.hr, .int .i64 t.l.x, .int .i64 t.l.y, .int .i64 t.r.x, .int .i64 t.r.y] := rfl
set_option maxRecDepth 100000 in
set_option maxHeartbeats 8000000 in
theorem tallN_any (w : World) : Calls Try.prog 40 #[.pointer none] w fun e w' => e = .returned (.slice none 0 0) ∧ Below w.heap.size w w' := by
  have H := Own.start w
  go_enter Try.func40, Try.ntmps40
  have tk0 : True := trivial
  go_wp2_with (first | fail)
  go_ret
  exact ⟨rfl, H.below⟩
set_option maxRecDepth 100000 in
set_option maxHeartbeats 16000000 in
theorem tall_any {B : Nat} {w0 w : World} {l : List Res} {bx ks ke n m cn cp dn dp : Nat} {P : List Pc} (hm : m = P.length) (hml : m ≤ 1000000) (H : Own B w0 w (xB bx ks ke n m cn cp dn dp :: pG dp m cp P :: l)) :
    Calls Try.prog 40 #[.pointer (some ⟨bx, 0, none⟩)] w fun e w' => ∃ A k c L, e = .returned (.slice A k c) ∧ k = L.length ∧ AllP P L ∧ Own B w0 w' (.grow 73 8 (.slice A k c) k (tR L) :: xB bx ks ke n m cn cp dn dp :: pG dp m cp P :: l) := by
  simp only [xB, pG] at H ⊢
  have HM := Lib.hid hm
  clear hm
  go_enter Try.func40, Try.ntmps40
  have tk0 : True := trivial
  go_wp2_with (guard_target =~ wpList _ _ _ (_ :: _) _ _; (guard_target =~ wpList _ _ _ (Oper.mk _ (.load _ _) _ _ _ _ :: _) _ _; refine BigFrame.wpList_want rfl (fun K hK => ?_); (refine o_loadC (v := ?_) (row := ?_) rfl rfl H ?_ ?_ ?_ (hK _ _ ?_); rotate_left 2; (repeat first | exact .head _ | apply List.Mem.tail); (exact rfl); (focus (intro _; simp; done))); clear hK K); simp only [Act.put, List.setIfInBounds_toArray, List.set_cons_succ, List.set_cons_zero])
  have H := H.grow_nil 73 8
  go_loopg [13, 3] m (fun k i v wr => k ≤ m ∧ i = .int .i64 ((m - k : Nat) : Int) ∧ ∃ q, q = (liveT (P.take (m - k))).length ∧ Own B w0 wr (.grow 73 8 v q (tR (liveT (P.take (m - k)))) :: .cells bx [.slice (some ⟨dn, 0, none⟩) n cn, .slice (some ⟨dp, 0, none⟩) m cp, .map (some ks), .map (some ke)] :: .grow 121 10 (.slice (some ⟨dp, 0, none⟩) m cp) m (pR P) :: l))
  case atStart => exact ⟨Nat.le_refl _, by simp, 0, by rw [Nat.sub_self]; rfl, by rw [Nat.sub_self]; exact H⟩
  case round =>
    clear H
    obtain ⟨hk, rfl, q, hq, H⟩ := hrel
    by_cases hlt : 0 < gk
    · obtain ⟨j, hj⟩ : ∃ j, m - gk = j := ⟨_, rfl⟩
      have hjl : j < m := by omega
      rw [hj] at H hq ⊢
      obtain ⟨p, he⟩ : ∃ p, P[j]? = some p := ⟨_, List.getElem?_eq_getElem (by have := HM.out; omega)⟩
      have hst := liveT_step he
      obtain ⟨⟨tp, bt, hl, hr, ⟨lx, ly⟩, ⟨rx, ry⟩⟩, nd, gn⟩ := p
      have hp := p_grow (n := m) (b := dp) (c := cp) he
      simp only [pc10] at hp
      have hql : q ≤ j := by rw [hq]; exact liveT_len _ _
      generalize liveT (P.take j) = D at H hq hst
      have HST := Lib.hid hst
      have HJ := Lib.hid hj
      have HQ := Lib.hid hq
      clear he hst hj hq
      cases gn
      · have tk0 : True := trivial
        go_wp2_with (guard_target =~ wpList _ _ _ (_ :: _) _ _; (first | (guard_target =~ wpList _ _ _ (Oper.mk _ (.call { callee := .builtin .append, args := _, argTypes := _ }) _ _ _ _ :: _) _ _; refine BigFrame.wpList_want rfl (fun K hK => ?_); refine o_append (row := ?_) (n := ?_) (xs := ?_) (l' := ?_) infoTz rfl rfl rfl H ?_ rfl ?_ ?_ (by kernel_rfl) rfl (by decide) ?_ ?_ ?_ (fun v2 w3 H2 hn => hK _ _ ?_); rotate_left 4; (repeat first | exact .head _ | apply List.Mem.tail); (focus (simp; done)); (focus (intro _; (exact r2))); exact rfl; exact (by unfold maxLen; omega); exact (by omega); clear hK K hn; clear H; (try clear w2); revert w3; intro w2 H; simp only [List.take_succ_cons, List.take_zero, Nat.one_mul] at H) | (guard_target =~ wpList _ _ _ (Oper.mk _ (.load _ _) _ _ _ _ :: _) _ _; refine BigFrame.wpList_want rfl (fun K hK => ?_); (first | (refine o_loadPz (t0 := ?_) (t1 := ?_) (t2 := ?_) (t3 := ?_) (t4 := ?_) (t5 := ?_) (t6 := ?_) (t7 := ?_) (t8 := ?_) (t9 := ?_) rfl rfl H ?_ ?_ ?_ (hK _ _ ?_); rotate_left 10; (repeat first | exact .head _ | apply List.Mem.tail); (focus (intro _; simp; done)); (focus (intro _; simp; done))) | (refine o_loadC (v := ?_) (row := ?_) rfl rfl H ?_ ?_ ?_ (hK _ _ ?_); rotate_left 2; (repeat first | exact .head _ | apply List.Mem.tail); (exact rfl); (focus (intro _; simp; done))) | (refine o_loadN (cs := ?_) (r := ?_) rfl rfl H ?_ ?_ ?_ ?_ (hK _ _ ?_); rotate_left 2; (with_reducible assumption); (repeat first | exact .head _ | apply List.Mem.tail); (focus (intro _; simp; done)); (focus (intro _; simp; done)))); clear hK K) | (guard_target =~ wpList _ _ _ (Oper.mk _ (.store _ _ _) _ _ _ _ :: _) _ _; refine BigFrame.wpList_want rfl (fun K hK => ?_); refine o_store (l' := ?_) (row := ?_) rfl rfl H rfl ?_ ?_ ?_ ?_ (fun w3 H2 => hK _ _ ?_); rotate_left 2; (exact r0); (focus (intro _; simp [Act.eval, Value.cells]; done)); (focus (simp [Act.eval, Value.cells]; done)); (exact rfl); clear hK K; clear H; (try clear w2); revert w3; intro w2 H; simp [Act.eval, Value.cells, setL, List.getD] at H) | ((first | (guard_target =~ wpList _ _ _ (Oper.mk _ (.alloc _) _ _ _ _ :: _) _ _; refine BigFrame.wpList_want rfl (fun K hK => ?_); refine o_alloc (z := ?_) rfl ?_ H rfl (fun w3 b2 he H2 => hK _ _ ?_); rotate_left 1; (focus (intro _; simp; with_reducible exact rfl))) | (guard_target =~ wpList _ _ _ (Oper.mk _ (.buildSlice _ _ _) _ _ _ _ :: _) _ _; refine BigFrame.wpList_want rfl (fun K hK => ?_); refine o_buildSlice (C := ?_) (E := ?_) rfl rfl H ?_ rfl (fun w3 b2 he H2 => hK _ _ ?_); rotate_left 2; (focus (intro _; simp [go_sem, Instr.buildSlice]; with_reducible exact rfl)))); clear hK K he; clear H; (try clear w2); revert w3; intro w2 H; simp [Act.eval, Value.cells, setL, List.getD] at H; (clear tk0; rename Nat => b2))); simp only [Act.put, List.setIfInBounds_toArray, List.set_cons_succ, List.set_cons_zero])
        go_roundg (gk - 1)
        case rel =>
          refine ⟨by omega, by have := HJ.out; congr 1; omega, q + 1, ?_, ?_⟩
          · rw [show m - (gk - 1) = j + 1 by have := HJ.out; omega, HST.out, if_neg (by simp), List.length_append, HQ.out]; rfl
          · rw [show m - (gk - 1) = j + 1 by have := HJ.out; omega, HST.out, if_neg (by simp), tR_app, tR_one]
            exact (H.sub (by repeat first | exact List.Sublist.refl _ | apply List.Sublist.cons_cons | apply List.Sublist.cons))
        case measure => omega
      · have tk0 : True := trivial
        go_wp2_with (guard_target =~ wpList _ _ _ (_ :: _) _ _; (first | (guard_target =~ wpList _ _ _ (Oper.mk _ (.load _ _) _ _ _ _ :: _) _ _; refine BigFrame.wpList_want rfl (fun K hK => ?_); (first | (refine o_loadC (v := ?_) (row := ?_) rfl rfl H ?_ ?_ ?_ (hK _ _ ?_); rotate_left 2; (repeat first | exact .head _ | apply List.Mem.tail); (exact rfl); (focus (intro _; simp; done))) | (refine o_loadN (cs := ?_) (r := ?_) rfl rfl H ?_ ?_ ?_ ?_ (hK _ _ ?_); rotate_left 2; (with_reducible assumption); (repeat first | exact .head _ | apply List.Mem.tail); (focus (intro _; simp; done)); (focus (intro _; simp; done)))); clear hK K) | (guard_target =~ wpList _ _ _ (Oper.mk _ (.store _ _ _) _ _ _ _ :: _) _ _; refine BigFrame.wpList_want rfl (fun K hK => ?_); refine o_store (l' := ?_) (row := ?_) rfl rfl H rfl ?_ ?_ ?_ ?_ (fun w3 H2 => hK _ _ ?_); rotate_left 2; (exact r0); (focus (intro _; simp [Act.eval, Value.cells]; done)); (focus (simp [Act.eval, Value.cells]; done)); (exact rfl); clear hK K; clear H; (try clear w2); revert w3; intro w2 H; simp [Act.eval, Value.cells, setL, List.getD] at H) | ((guard_target =~ wpList _ _ _ (Oper.mk _ (.alloc _) _ _ _ _ :: _) _ _; refine BigFrame.wpList_want rfl (fun K hK => ?_); refine o_alloc (z := ?_) rfl ?_ H rfl (fun w3 b2 he H2 => hK _ _ ?_); rotate_left 1; (focus (intro _; simp; with_reducible exact rfl))); clear hK K he; clear H; (try clear w2); revert w3; intro w2 H; simp [Act.eval, Value.cells, setL, List.getD] at H; (clear tk0; rename Nat => b2))); simp only [Act.put, List.setIfInBounds_toArray, List.set_cons_succ, List.set_cons_zero])
        go_roundg (gk - 1)
        case rel =>
          refine ⟨by omega, by have := HJ.out; congr 1; omega, q, ?_, ?_⟩
          · rw [show m - (gk - 1) = j + 1 by have := HJ.out; omega, HST.out, if_pos trivial, HQ.out]
          · rw [show m - (gk - 1) = j + 1 by have := HJ.out; omega, HST.out, if_pos trivial]
            exact (H.sub (by repeat first | exact List.Sublist.refl _ | apply List.Sublist.cons_cons | apply List.Sublist.cons))
        case measure => omega
    · obtain rfl : gk = 0 := by omega
      rw [Nat.sub_zero, List.take_of_length_le (by have := HM.out; omega)] at hq H
      have hql : q ≤ 1000000 := by
        rw [hq]
        have := liveT_len P P.length
        rw [List.take_length] at this
        have := HM.out; omega
      have HQ := Lib.hid hq
      go_wp2_with (go_at_call 64; (with_reducible refine (sortT_any hq hql H).mono ?_); rintro e w3 ⟨rfl, L, hp, hs, H2⟩; replace H := H2; clear H2; dsimp only)
      obtain ⟨A5, c5, rfl⟩ := H.growForm m0
      go_ret
      exact ⟨A5, q, c5, L, rfl, by rw [HQ.out, hp.length_eq], ⟨hp, hs⟩, (H.sub (by repeat first | exact List.Sublist.refl _ | apply List.Sublist.cons_cons | apply List.Sublist.cons))⟩
end Go.Proofs.Ytlhmjhildlnokaa

/-
  Indices built from a plan's edges in any order: what is known of them.
-/
namespace Go.Proofs.Ytlhmjhildlnokaa
set_option linter.unusedVariables false
set_option linter.unusedSimpArgs false
open Go.RowKit Go.Sort Go.Shelf

theorem wf_u8 {n : Int} (h : (Lit.int .u8 n).wf = true) : 0 ≤ n ∧ n < 256 := by
  have := bounds_u8 h
  omega
theorem ordP_of {vs : List Vt} {es : List Eg} {os : List Int} (H : RightP vs es) (h : os.Perm (es.map (·.id))) : OrdP es os := by
  refine ⟨by rw [h.length_eq, List.length_map], fun id hi => ?_, h.nodup_iff.2 (ids_nodup H)⟩
  obtain ⟨e, he, rfl⟩ := List.mem_map.1 (h.mem_iff.1 hi)
  exact List.find?_isSome.2 ⟨e, he, by simp⟩
theorem perm_len {es : List Eg} {os : List Int} {m : Nat} (h : os.Perm (es.map (·.id))) (hm : m = es.length) (hl : m ≤ 40) : os.length ≤ 40 := by rw [h.length_eq, List.length_map, ← hm]; exact hl
theorem build_yesR {vs : List Vt} {es : List Eg} (hr : rightB vs es = true) (os : List Int) (A A2 A3 : Option Addr) (n m q : Nat) (c c2 c3 : Nat) (hn : n = vs.length) (hm : m = es.length) (hq : q = os.length) (hl : n ≤ 1000000) (hl2 : m ≤ 40) (hc2 : m ≤ c2) (hcc : c2 ≤ maxLen) (w : World) (hp : os.Perm (es.map (·.id))) (hs : Sl (fun _ => False) w A (vR vs)) (hs2 : Sl (fun _ => False) w A2 (eR es)) (hs3 : Sl (fun _ => False) w A3 (oR os)) :
    Calls Try.prog 37 #[.agg #[.slice A n c, .slice A2 m c2], .slice A3 q c3] w fun e w' => ∃ X bx ks ke cn cp dn dp, e = .returned (.tuple #[.pointer (some ⟨bx, 0, none⟩), .int .i64 0]) ∧ BldI vs es os X ∧ Own w.heap.size w w' (xL bx ks ke cn cp dn dp X []) := by
  refine (build_any vs es os A A2 A3 n m q c c2 c3 (fun _ => False) w hn hm hq hs hs2 hs3 (fun _ h => h.elim) hl hl2 hc2 hcc).mono ?_
  rintro e w' (⟨h, _⟩ | ⟨_, h⟩)
  · unfold buildB at h
    rw [hr, decide_eq_true (ordP_of (rightT_P hr) hp)] at h
    cases h
  · exact h
theorem build_noR {vs : List Vt} {es : List Eg} (hr : rightB vs es = false) (os : List Int) (A A2 A3 : Option Addr) (n m q : Nat) (c c2 c3 : Nat) (hn : n = vs.length) (hm : m = es.length) (hq : q = os.length) (hl : n ≤ 1000000) (hl2 : m ≤ 40) (hc2 : m ≤ c2) (hcc : c2 ≤ maxLen) (w : World) (hs : Sl (fun _ => False) w A (vR vs)) (hs2 : Sl (fun _ => False) w A2 (eR es)) (hs3 : Sl (fun _ => False) w A3 (oR os)) :
    Calls Try.prog 37 #[.agg #[.slice A n c, .slice A2 m c2], .slice A3 q c3] w fun e w' => e = .returned (.tuple #[.pointer none, .int .i64 1]) ∧ Below w.heap.size w w' := by
  refine (build_any vs es os A A2 A3 n m q c c2 c3 (fun _ => False) w hn hm hq hs hs2 hs3 (fun _ h => h.elim) hl hl2 hc2 hcc).mono ?_
  rintro e w' (⟨_, h⟩ | ⟨h, _⟩)
  · exact h
  · unfold buildB at h
    rw [hr] at h
    cases h
theorem bld_ixN {vs : List Vt} {es : List Eg} {os : List Int} {X : IxS} (I : BldI vs es os X) (h : os.length ≤ 40) : IxN os.length X.N X.P := by
  have e : ((segsOf vs es os).reverse).length = os.length := by rw [List.length_reverse]; unfold segsOf; rw [List.length_map]
  have := I.puts.ixN (by rw [e]; exact h)
  rw [e] at this
  exact this
theorem bld_sizes {vs : List Vt} {es : List Eg} {os : List Int} {X : IxS} (I : BldI vs es os X) (h : os.length ≤ 40) : X.P.length ≤ 1000000 ∧ X.N.length ≤ 1000000 ∧ liveN X.P ≤ 3 * os.length + 1 := by
  have J := bld_ixN I h
  have h1 := J.pl
  have h2 := J.nl
  exact ⟨by omega, by omega, J.live⟩
theorem tallI {B : Nat} {w0 w : World} {l : List Res} {bx ks ke cn cp dn dp : Nat} {vs : List Vt} {es : List Eg} {os : List Int} {X : IxS} (I : BldI vs es os X) (h : os.length ≤ 40) (H : Own B w0 w (xB bx ks ke X.N.length X.P.length cn cp dn dp :: pG dp X.P.length cp X.P :: l)) :
    Calls Try.prog 40 #[.pointer (some ⟨bx, 0, none⟩)] w fun e w' => ∃ A k c L, e = .returned (.slice A k c) ∧ k = L.length ∧ AllP X.P L ∧ Own B w0 w' (.grow 73 8 (.slice A k c) k (tR L) :: xB bx ks ke X.N.length X.P.length cn cp dn dp :: pG dp X.P.length cp X.P :: l) :=
  tall_any rfl (bld_sizes I h).1 H
end Go.Proofs.Ytlhmjhildlnokaa

/-
  Structs held against each other, field by field; a law of this claim's own. Nothing of the program stands here.
-/
namespace Go.Proofs.Ytlhmjhildlnokaa
set_option linter.unusedVariables false
variable {P : Program}
/-- A field: type, place, both values, whether they are the same. -/
structure FldEq where
  ty : TypeId
  off : Nat
  x : Value
  y : Value
  b : Bool
structure FldEq.ok (P : Program) (d : Nat) (xs ys : Array Value) (f : FldEq) : Prop where
  px : ∀ w, (part f.ty xs f.off).run P w = .ok f.x w
  py : ∀ w, (part f.ty ys f.off).run P w = .ok f.y w
  eq : ∀ w, (Op.equalIn d f.ty f.x f.y).run P w = .ok f.b w
theorem run_eqFields (d : Nat) (xs ys : Array Value) : ∀ (fs : List Field) (l : List FldEq), fs.map (fun f => (f.name == "_", f.type, f.offset)) = l.map (fun f => (false, f.ty, f.off)) → (∀ f ∈ l, f.ok P d xs ys) →
    ∀ w, (Op.eqFields d xs ys fs).run P w = .ok (l.all (·.b)) w
  | [], [], _, _, w => by simp [Op.eqFields]
  | [], _ :: _, h, _, _ => by simp at h
  | _ :: _, [], h, _, _ => by simp at h
  | f :: fs, g :: l, h, hl, w => by
    simp only [List.map_cons, List.cons.injEq, Prod.mk.injEq] at h
    obtain ⟨⟨h1, h2, h3⟩, h⟩ := h
    have hg := hl g (by simp)
    have ih := run_eqFields d xs ys fs l h (fun f hf => hl f (List.mem_cons_of_mem _ hf)) w
    have hn : f.name ≠ "_" := by simpa using h1
    unfold Op.eqFields
    rw [if_pos hn]
    simp only [Sem.run_bind, h2, h3, hg.px, hg.py, hg.eq, Result.andThen_ok, List.all_cons]
    cases hb : g.b with
    | false => simp
    | true => simp [ih]
theorem eqS_in {d : Nat} {T : TypeId} {xs ys : Array Value} (l : List FldEq) (hu : P.underlying T = some (.struct (P.fieldsOf T))) (hh : P.stoodInHeld T = false)
    (hf : (P.fieldsOf T).toList.map (fun f => (f.name == "_", f.type, f.offset)) = l.map (fun f => (false, f.ty, f.off))) (hl : ∀ f ∈ l, f.ok P d xs ys) (w : World) :
    (Op.equalIn (d + 1) T (.agg xs) (.agg ys)).run P w = .ok (l.all (·.b)) w := by
  rw [run_equalIn_struct w d _ _ _ hu hh]
  exact run_eqFields d xs ys _ l hf hl w
theorem part_cell {T : TypeId} {cs : Array Value} {i : Nat} {v : Value} (ha : ∀ w, (isAgg T).run P w = .ok false w) (h : cs[i]? = some v) (w : World) : (part T cs i).run P w = .ok v w := by
  unfold part
  simp [go_sem, ha, h]
theorem part_row {T : TypeId} {cs : Array Value} {i n : Nat} {xs : Array Value} (ha : ∀ w, (isAgg T).run P w = .ok true w) (hs : ∀ w, (sizeOf T).run P w = .ok n w) (h : cs.extract i (i + n) = xs) (w : World) : (part T cs i).run P w = .ok (.agg xs) w := by
  unfold part
  simp [ha, hs, h]
theorem eqS_eql {T : TypeId} {xs ys : Array Value} {v : Bool} (h : ∀ w, (Op.equalIn 10000 T (.agg xs) (.agg ys)).run P w = .ok v w) (w : World) : (binOp .eql T (.agg xs) (.agg ys)).run P w = .ok (.bool v) w := by
  simp only [binOp]
  simp [Op.equal, Op.maxDepth, h w]
theorem eqS_neq {T : TypeId} {xs ys : Array Value} {v : Bool} (h : ∀ w, (Op.equalIn 10000 T (.agg xs) (.agg ys)).run P w = .ok v w) (w : World) : (binOp .neq T (.agg xs) (.agg ys)).run P w = .ok (.bool (!v)) w := by
  simp only [binOp]
  simp [Op.equal, Op.maxDepth, h w]
end Go.Proofs.Ytlhmjhildlnokaa

/-
  The walk of the index's Find.
-/
namespace Go.Proofs.Ytlhmjhildlnokaa
set_option linter.unusedVariables false
set_option linter.unusedSimpArgs false
open Go.RowKit Go.Sort Go.Shelf

abbrev spV (a b : Int) : Value := .agg #[.int .i64 a, .int .i64 b]
theorem n_grow {N : List Nd} {j n b c : Nat} {q : Nd} (h : N[j]? = some q) : (Res.grow 127 6 (.slice (some ⟨b, 0, none⟩) n c) n (nR N)).at b (j * 6) (nd6 q) := at_grow (flatN_at (f := nd6) (k := 6) (fun _ => rfl) N j _ h)
theorem p_bot {P : List Pc} {j n b c : Nat} {p : Pc} (h : P[j]? = some p) : (Res.grow 121 10 (.slice (some ⟨b, 0, none⟩) n c) n (pR P)).at b (j * 10 + 1) [.int .i64 p.t.bot] := at_grow (by
  have := flatN_sub (f := pc10) (k := 10) (fun _ => rfl) h 1 1 (by omega)
  exact this)
section
variable {Pg : Program} {o : Oper} {a : Act} {w w0 : World} {B : Nat} {l : List Res} {Q : Exit → Act → World → Prop} {ty : TypeId} {x : Operand} {b : Nat} {t0 t1 t2 t3 t4 t5 : Value}
/-- The load of a point out of a node. -/
theorem q_loadNp {lf : List Res} {K : Act → Prop} (ho : o.op = .load ty x) (hx : a.eval x = .pointer (some ⟨b, 2, none⟩)) (hm : Res.cells b [t0, t1, t2, t3, t4, t5] ∈ lf)
    (ha : ∀ w, (isAgg ty).run Pg w = .ok true w) (hs : ∀ w, (sizeOf ty).run Pg w = .ok 2 w) (hk : K (a.put o.dst (.agg #[t2, t3]))) : o.quiet Pg a (Keeps B w0 lf) K := q_loadN (r := .cells b [t0, t1, t2, t3, t4, t5]) (cs := [t2, t3]) ho hx ⟨rfl, rfl⟩ hm ha hs hk
theorem o_loadNp {K : Act → World → Prop} (ho : o.op = .load ty x) (hx : a.eval x = .pointer (some ⟨b, 2, none⟩)) (H : Own B w0 w l) (hm : Res.cells b [t0, t1, t2, t3, t4, t5] ∈ l)
    (ha : ∀ w, (isAgg ty).run Pg w = .ok true w) (hs : ∀ w, (sizeOf ty).run Pg w = .ok 2 w) (hk : K (a.put o.dst (.agg #[t2, t3])) w) : o.wp Pg a w K Q := o_loadN (r := .cells b [t0, t1, t2, t3, t4, t5]) (cs := [t2, t3]) ho hx H ⟨rfl, rfl⟩ hm ha hs hk
end
set_option maxRecDepth 100000 in
set_option maxHeartbeats 8000000 in
theorem findN_any (x y : Int) (w : World) : Calls Try.prog 41 #[.pointer none, pV x y] w fun e w' => e = .returned (.tuple #[spV 0 0, .int .i64 1]) ∧ Below w.heap.size w w' := by
  have H := Own.start w
  go_enter Try.func41, Try.ntmps41
  have tk0 : True := trivial
  have tk1 : True := trivial
  go_wp2_with (first
    | (guard_target =~ Code.wp _ (Code.scope _) _ _ _; go_step3)
    | (guard_target =~ wpList _ _ _ (_ :: _) _ _; (first | (guard_target =~ wpList _ _ _ (Oper.mk _ (.store _ _ _) _ _ _ _ :: _) _ _; refine BigFrame.wpList_want rfl (fun K hK => ?_); refine o_store (l' := ?_) (row := ?_) rfl rfl H rfl ?_ ?_ ?_ ?_ (fun w3 H2 => hK _ _ ?_); rotate_left 2; (exact r0); (focus (intro _; simp [Act.eval, Value.cells]; done)); (focus (simp [Act.eval, Value.cells]; done)); (exact rfl); clear hK K; clear H; (try clear w2); revert w3; intro w2 H; simp [Act.eval, Value.cells, setL, List.getD] at H) | ((first | (guard_target =~ wpList _ _ _ (Oper.mk _ (.alloc _) _ _ _ _ :: _) _ _; refine BigFrame.wpList_want rfl (fun K hK => ?_); refine o_alloc (z := ?_) rfl ?_ H rfl (fun w3 b2 he H2 => hK _ _ ?_); rotate_left 1; (focus (intro _; simp; with_reducible exact rfl))) | (guard_target =~ wpList _ _ _ (Oper.mk _ (.box _ _) _ _ _ _ :: _) _ _; refine BigFrame.wpList_want rfl (fun K hK => ?_); refine o_box rfl H rfl (fun w3 b2 he H2 => hK _ _ ?_))); clear hK K he; clear H; (try clear w2); revert w3; intro w2 H; simp [Act.eval, Value.cells, setL, List.getD] at H; (first | (clear tk0; rename Nat => b1) | (clear tk1; rename Nat => b2)))); simp only [Act.put, List.setIfInBounds_toArray, List.set_cons_succ, List.set_cons_zero]))
  have hr := H.loadVarN (P := Try.prog) (ty := 69) (b := b2) (by exact m0) (by simp) (by simp)
  (try rw [Exit.noGoto_ret])
  exact bodyPost_ret (v := .tuple #[spV 0 0, .int .i64 1]) (by simp [results, Try.results41, asAddr, hr]) rfl ⟨rfl, H.below⟩
set_option maxRecDepth 100000 in
set_option maxHeartbeats 8000000 in
theorem findR_any {B : Nat} {w0 w : World} {l : List Res} {bx : Nat} {x y : Int} (hin : inB ⟨x, y⟩ = false) (H : Own B w0 w l) : Calls Try.prog 41 #[.pointer (some ⟨bx, 0, none⟩), pV x y] w fun e w' => e = .returned (.tuple #[spV 0 0, .int .i64 5]) ∧ Own B w0 w' l := by
  have h1 := fun w => geomIn_any x y w
  rw [hin] at h1
  clear hin
  go_enter Try.func41, Try.ntmps41
  have tk0 : True := trivial
  have tk1 : True := trivial
  go_wp2_with (first
    | (guard_target =~ Code.wp _ (Code.scope _) _ _ _; go_step3)
    | (go_at_call 55; (with_reducible refine (h1 _).mono ?_); rintro e w3 ⟨rfl, hb⟩; replace H := H.ext hb; clear hb; dsimp only)
    | (guard_target =~ wpList _ _ _ (_ :: _) _ _; (first | (guard_target =~ wpList _ _ _ (Oper.mk _ (.load _ _) _ _ _ _ :: _) _ _; refine BigFrame.wpList_want rfl (fun K hK => ?_); (refine o_loadNC (row := ?_) rfl rfl H ?_ ?_ ?_ (hK _ _ ?_); rotate_left 1; (repeat first | exact .head _ | apply List.Mem.tail); (focus (intro _; simp; done)); (focus (intro _; simp; done))); clear hK K) | (guard_target =~ wpList _ _ _ (Oper.mk _ (.store _ _ _) _ _ _ _ :: _) _ _; refine BigFrame.wpList_want rfl (fun K hK => ?_); refine o_store (l' := ?_) (row := ?_) rfl rfl H rfl ?_ ?_ ?_ ?_ (fun w3 H2 => hK _ _ ?_); rotate_left 2; (exact r0); (focus (intro _; simp [Act.eval, Value.cells]; done)); (focus (simp [Act.eval, Value.cells]; done)); (exact rfl); clear hK K; clear H; (try clear w2); revert w3; intro w2 H; simp [Act.eval, Value.cells, setL, List.getD] at H) | ((first | (guard_target =~ wpList _ _ _ (Oper.mk _ (.alloc _) _ _ _ _ :: _) _ _; refine BigFrame.wpList_want rfl (fun K hK => ?_); refine o_alloc (z := ?_) rfl ?_ H rfl (fun w3 b2 he H2 => hK _ _ ?_); rotate_left 1; (focus (intro _; simp; with_reducible exact rfl))) | (guard_target =~ wpList _ _ _ (Oper.mk _ (.box _ _) _ _ _ _ :: _) _ _; refine BigFrame.wpList_want rfl (fun K hK => ?_); refine o_box rfl H rfl (fun w3 b2 he H2 => hK _ _ ?_))); clear hK K he; clear H; (try clear w2); revert w3; intro w2 H; simp [Act.eval, Value.cells, setL, List.getD] at H; (first | (clear tk0; rename Nat => b1) | (clear tk1; rename Nat => b2)))); simp only [Act.put, List.setIfInBounds_toArray, List.set_cons_succ, List.set_cons_zero]))
  have hr := H.loadVarN (P := Try.prog) (ty := 69) (b := b2) (by exact m0) (by simp) (by simp)
  (try rw [Exit.noGoto_ret])
  exact bodyPost_ret (v := .tuple #[spV 0 0, .int .i64 5]) (by simp [results, Try.results41, asAddr, hr]) rfl ⟨rfl, H.tail.tail⟩
set_option maxRecDepth 100000 in
set_option maxHeartbeats 8000000 in
theorem findE_any {B : Nat} {w0 w : World} {l : List Res} {bx ks ke cn cp dn dp n m : Nat} {E : List (Pt × Bool)} {x y : Int} (hin : inB ⟨x, y⟩ = true) (he : (getA E ⟨x, y⟩).getD false = true) (H : Own B w0 w (xB bx ks ke n m cn cp dn dp :: mEnd ke E :: l)) :
    Calls Try.prog 41 #[.pointer (some ⟨bx, 0, none⟩), pV x y] w fun e w' => e = .returned (.tuple #[spV 0 0, .int .i64 7]) ∧ Own B w0 w' (xB bx ks ke n m cn cp dn dp :: mEnd ke E :: l) := by
  have h1 := fun w => geomIn_any x y w
  rw [hin] at h1
  simp only [xB] at H ⊢
  clear hin
  go_enter Try.func41, Try.ntmps41
  have tk0 : True := trivial
  have tk1 : True := trivial
  go_wp2_with (first
    | (guard_target =~ Code.wp _ (Code.scope _) _ _ _; go_step3)
    | (go_at_call 55; (with_reducible refine (h1 _).mono ?_); rintro e w3 ⟨rfl, hb⟩; replace H := H.ext hb; clear hb; dsimp only; (skip))
    | (guard_target =~ Code.wp _ (Code.region 5 _ true) _ _ _; refine region_treeC0 5 (G := True) (.q 0 (.q 4 (.e 1 (.q 2 (.q 3 (.q 5 (.q 6 .nil))))))) (by kernel_rfl) (by intro c a d v w h; cases d <;> first | exact h | exact hQ h) (by kernel_rfl) H ⟨trivial⟩ (fun _ w3 H2 => ?_); (clear H; (try clear w2); revert w3; intro w2 H))
    | (guard_target =~ wpList _ _ _ (_ :: _) _ _; (first | (guard_target =~ wpList _ _ _ (Oper.mk _ (.load _ _) _ _ _ _ :: _) _ _; refine BigFrame.wpList_want rfl (fun K hK => ?_); (refine o_loadNC (row := ?_) rfl rfl H ?_ ?_ ?_ (hK _ _ ?_); rotate_left 1; (repeat first | exact .head _ | apply List.Mem.tail); (focus (intro _; simp [he]; done)); (focus (intro _; simp [he]; done))); clear hK K) | (guard_target =~ wpList _ _ _ (Oper.mk _ (.store _ _ _) _ _ _ _ :: _) _ _; refine BigFrame.wpList_want rfl (fun K hK => ?_); refine o_store (l' := ?_) (row := ?_) rfl rfl H rfl ?_ ?_ ?_ ?_ (fun w3 H2 => hK _ _ ?_); rotate_left 2; (exact r0); (focus (intro _; (simp [Act.eval, Value.cells, List.getD, he]; done))); (focus (simp [Act.eval, Value.cells, List.getD, he]; done)); (exact rfl); clear hK K; clear H; (try clear w2); revert w3; intro w2 H; (try simp [Act.eval, List.getD, he] at H); (try simp [Value.cells, setL, he] at H)) | ((first | (guard_target =~ wpList _ _ _ (Oper.mk _ (.alloc _) _ _ _ _ :: _) _ _; refine BigFrame.wpList_want rfl (fun K hK => ?_); refine o_alloc (z := ?_) rfl ?_ H rfl (fun w3 b2 he H2 => hK _ _ ?_); rotate_left 1; (focus (intro _; simp; with_reducible exact rfl))) | (guard_target =~ wpList _ _ _ (Oper.mk _ (.box _ _) _ _ _ _ :: _) _ _; refine BigFrame.wpList_want rfl (fun K hK => ?_); refine o_box rfl H rfl (fun w3 b2 he H2 => hK _ _ ?_))); clear hK K he; clear H; (try clear w2); revert w3; intro w2 H; (try simp [Act.eval, List.getD, he] at H); (try simp [Value.cells, setL, he] at H); (first | (clear tk0; rename Nat => b1) | (clear tk1; rename Nat => b2)))); simp only [Act.put, List.setIfInBounds_toArray, List.set_cons_succ, List.set_cons_zero, he])
    | (guard_target =~ wpTreeC _ _ _ _ _ _ _; first | (guard_target =~ wpTreeC _ _ _ (Tr.e _ Tr.nil) _ _ _; refine treeC_last (by decide +kernel) H rfl rfl (fun w3 H2 K hK => ?_); clear H; (try clear w2); (revert w3; intro w2 H); simp only [List.getElem_toArray, List.getElem_cons_succ, List.getElem_cons_zero]; (first | fail); simp only [Act.put, List.setIfInBounds_toArray, List.set_cons_succ, List.set_cons_zero, he]) | (guard_target =~ wpTreeC _ _ _ (Tr.q _ _) _ _ _; first | (refine treeC_quiet ⟨_, H, by repeat first | exact .here | apply Suf.there⟩ rfl rfl rfl (fun K hK => ?_); simp only [List.getElem_toArray, List.getElem_cons_succ, List.getElem_cons_zero]; first | (guard_target =~ Oper.quiet _ (Oper.mk _ (.lookup _ _ _ false) _ _ _ _) _ _ _; refine q_endGet (m := ?_) rfl rfl rfl ?_ (hK _ ?_); rotate_left 1; (repeat first | exact .head _ | apply List.Mem.tail); clear hK K; simp only [Act.put, List.setIfInBounds_toArray, List.set_cons_succ, List.set_cons_zero, he]) | (guard_target =~ Oper.quiet _ (Oper.mk _ (.lookup _ _ _ true) _ _ _ _) _ _ _; refine q_endOk (m := ?_) rfl rfl rfl ?_ (hK _ ?_); rotate_left 1; (repeat first | exact .head _ | apply List.Mem.tail); clear hK K; simp only [Act.put, List.setIfInBounds_toArray, List.set_cons_succ, List.set_cons_zero, he]) | (guard_target =~ Oper.quiet _ (Oper.mk _ (.load _ _) _ _ _ _) _ _ _; (first | (refine q_loadC (v := ?_) (row := ?_) rfl rfl ?_ ?_ ?_ (hK _ ?_); rotate_left 2; (repeat first | exact .head _ | apply List.Mem.tail); (exact rfl); (focus (intro _; simp [he]; done))) | (refine q_loadNC (row := ?_) rfl rfl ?_ ?_ ?_ (hK _ ?_); rotate_left 1; (repeat first | exact .head _ | apply List.Mem.tail); (focus (intro _; simp [he]; done)); (focus (intro _; simp [he]; done)))); clear hK K; simp only [Act.put, List.setIfInBounds_toArray, List.set_cons_succ, List.set_cons_zero, he]) | (go_big_quiet_op; (try refine ⟨_, fun _ _ => rfl, ?_⟩); refine hK _ ?_; clear hK K)) | (refine treeC_call (v := ?_) ⟨_, H, by repeat first | exact .here | apply Suf.there⟩ rfl rfl (fun w3 H K hK => ?_) ?_; rotate_left 1; (focus (simp only [List.getElem_toArray, List.getElem_cons_succ, List.getElem_cons_zero]; first | (go_big_op; first | exact hK _ (Ext.refl _) | (go_at_call 55; (with_reducible refine (h1 _).mono ?_); rintro e w3 ⟨rfl, hb⟩; dsimp only; first | exact hK _ hb | exact hK _ (Ext.refl _))))); simp only [List.getElem_toArray, List.getElem_cons_succ, List.getElem_cons_zero, Act.put, List.setIfInBounds_toArray, List.set_cons_succ, List.set_cons_zero, he]) | (refine treeC_skip ⟨_, H, by repeat first | exact .here | apply Suf.there⟩ rfl rfl ?_; simp only [List.getElem_toArray, List.getElem_cons_succ, List.getElem_cons_zero, Act.put, List.setIfInBounds_toArray, List.set_cons_succ, List.set_cons_zero, he])) | (guard_target =~ wpTreeC _ _ _ (Tr.both _ _) _ _ _; refine treeC_both ?_ ?_) | (guard_target =~ wpTreeC _ _ _ (Tr.e _ _) _ _ _; first | (refine treeC_one H rfl rfl (fun w3 H2 K hK => ?_); clear H; (try clear w2); (revert w3; intro w2 H); simp only [List.getElem_toArray, List.getElem_cons_succ, List.getElem_cons_zero]; first | ((first | fail); simp only [Act.put, List.setIfInBounds_toArray, List.set_cons_succ, List.set_cons_zero, he]) | (go_big_op; (refine hK _ _ ⟨_, H, by repeat first | exact .here | apply Suf.there⟩ ?_; clear hK K; (try simp only [Act.put, List.setIfInBounds_toArray, List.set_cons_succ, List.set_cons_zero, he])))) | (refine treeC_one_skip (fun w3 hx => ⟨_, H.ext hx, by repeat first | exact .here | apply Suf.there⟩) rfl rfl (fun w3 hx => ?_); replace H := H.ext hx; clear hx; (try clear w2); revert w3; intro w2 H; simp only [List.getElem_toArray, List.getElem_cons_succ, List.getElem_cons_zero, Act.put, List.setIfInBounds_toArray, List.set_cons_succ, List.set_cons_zero, he])) | (guard_target =~ wpTreeC _ _ _ Tr.nil _ _ _; refine treeC_nil H (fun w3 H2 => ?_); clear H; (try clear w2); revert w3; intro w2 H)))
  have hr := H.loadVarN (P := Try.prog) (ty := 69) (b := b2) (by exact m0) (by simp) (by simp)
  (try rw [Exit.noGoto_ret])
  exact bodyPost_ret (v := .tuple #[spV 0 0, .int .i64 7]) (by simp [results, Try.results41, asAddr, hr]) rfl ⟨rfl, (H.sub (by repeat first | exact List.Sublist.refl _ | apply List.Sublist.cons_cons | apply List.Sublist.cons))⟩
/-- What is answered. -/
def spotOf (N : List Nd) (P : List Pc) : Ans → Value
  | .on id => spV id 0
  | .leaf n => spV 0 (((P[idN N n]?).getD pc0).t.bot)
def LeafOK (N : List Nd) (P : List Pc) : Ans → Prop
  | .on _ => True
  | .leaf n => ∃ i p, N[n]? = some (lfN i) ∧ P[i]? = some p
def FindRel (N : List Nd) (P : List Pc) (S : List (Int × Sg)) (E : List (Pt × Bool)) (q : Pt) (r : Ans) (B : Nat) (w0 : World) (bx ks ke cn cp dn dp b1 b2 b3 : Nat) (l : List Res) (k : Nat) (wr : World) : Prop :=
  ∃ nd m, N[m]? = some nd ∧ DescZ N S q k m r ∧ Own B w0 wr (.cells b3 (nd6 nd) :: .cells b2 [.int .i64 0, .int .i64 0] :: .cells b1 [.int .i64 q.x, .int .i64 q.y] :: xB bx ks ke N.length P.length cn cp dn dp :: nG dn N.length cn N :: pG dp P.length cp P :: mSeg ks S :: mEnd ke E :: l)
set_option maxRecDepth 100000 in
set_option maxHeartbeats 16000000 in
theorem find_any {B : Nat} {w0 w : World} {l : List Res} {bx ks ke cn cp dn dp k : Nat} {N : List Nd} {P : List Pc} {S : List (Int × Sg)} {E : List (Pt × Bool)} {x y : Int} {r : Ans} (hin : inB ⟨x, y⟩ = true) (he : (getA E ⟨x, y⟩).getD false = false) (hd : DescZ N S ⟨x, y⟩ k 0 r) (hleaf : LeafOK N P r) (hN : N.length ≤ 1000000) (hP : P.length ≤ 1000000)
    (H : Own B w0 w (xB bx ks ke N.length P.length cn cp dn dp :: nG dn N.length cn N :: pG dp P.length cp P :: mSeg ks S :: mEnd ke E :: l)) :
    Calls Try.prog 41 #[.pointer (some ⟨bx, 0, none⟩), pV x y] w fun e w' => e = .returned (.tuple #[spotOf N P r, .int .i64 0]) ∧ Own B w0 w' (xB bx ks ke N.length P.length cn cp dn dp :: nG dn N.length cn N :: pG dp P.length cp P :: mSeg ks S :: mEnd ke E :: l) := by
  have h1 := fun w => geomIn_any x y w
  rw [hin] at h1
  obtain ⟨nd, hnd⟩ := hd.node
  have HD := Lib.hid hd
  have HL := Lib.hid hleaf
  have HND := Lib.hid hnd
  have hp := n_grow (n := N.length) (b := dn) (c := cn) hnd
  simp only [nd6, Nat.zero_mul] at hp
  have hpos : 0 < N.length := (List.getElem?_eq_some_iff.1 hnd).1
  simp only [xB, nG, pG] at H ⊢
  clear hin hd hleaf hnd
  go_enter Try.func41, Try.ntmps41
  have tk0 : True := trivial
  have tk1 : True := trivial
  have tk2 : True := trivial
  go_wp2_with (first
    | (guard_target =~ Code.wp _ (Code.scope _) _ _ _; go_step3)
    | (guard_target =~ Code.wp _ (Code.label _) _ _ _; go_step3)
    | (go_at_call 55; (with_reducible refine (h1 _).mono ?_); rintro e w3 ⟨rfl, hb⟩; replace H := H.ext hb; clear hb; dsimp only; (skip))
    | (guard_target =~ Code.wp _ (Code.region 5 _ true) _ _ _; refine region_treeC0 5 (G := True) (.q 0 (.q 4 (.e 1 (.q 2 (.q 3 (.q 5 (.q 6 .nil))))))) (by kernel_rfl) (by intro c a d v w h; cases d <;> first | exact h | exact hQ h) (by kernel_rfl) H ⟨trivial⟩ (fun _ w3 H2 => ?_); (clear H; (try clear w2); revert w3; intro w2 H))
    | (guard_target =~ wpList _ _ _ (_ :: _) _ _; (first | (guard_target =~ wpList _ _ _ (Oper.mk _ (.load _ _) _ _ _ _ :: _) _ _; refine BigFrame.wpList_want rfl (fun K hK => ?_); (first | (refine o_loadC (v := ?_) (row := ?_) rfl rfl H ?_ ?_ ?_ (hK _ _ ?_); rotate_left 2; (repeat first | exact .head _ | apply List.Mem.tail); (exact rfl); (focus (intro _; simp [he]; done))) | (refine o_loadN (cs := ?_) (r := ?_) rfl rfl H ?_ ?_ ?_ ?_ (hK _ _ ?_); rotate_left 2; (with_reducible assumption); (repeat first | exact .head _ | apply List.Mem.tail); (focus (intro _; simp [he]; done)); (focus (intro _; simp [he]; done))) | (refine o_loadNC (row := ?_) rfl rfl H ?_ ?_ ?_ (hK _ _ ?_); rotate_left 1; (repeat first | exact .head _ | apply List.Mem.tail); (focus (intro _; simp [he]; done)); (focus (intro _; simp [he]; done)))); clear hK K) | (guard_target =~ wpList _ _ _ (Oper.mk _ (.store _ _ _) _ _ _ _ :: _) _ _; refine BigFrame.wpList_want rfl (fun K hK => ?_); refine o_store (l' := ?_) (row := ?_) rfl rfl H rfl ?_ ?_ ?_ ?_ (fun w3 H2 => hK _ _ ?_); rotate_left 2; (exact r0); (focus (intro _; (simp [Act.eval, Value.cells, List.getD, he]; done))); (focus (simp [Act.eval, Value.cells, List.getD, he]; done)); (exact rfl); clear hK K; clear H; (try clear w2); revert w3; intro w2 H; (try simp [Act.eval, List.getD, he] at H); (try simp [Value.cells, setL, he] at H)) | ((first | (guard_target =~ wpList _ _ _ (Oper.mk _ (.alloc _) _ _ _ _ :: _) _ _; refine BigFrame.wpList_want rfl (fun K hK => ?_); refine o_alloc (z := ?_) rfl ?_ H rfl (fun w3 b2 he H2 => hK _ _ ?_); rotate_left 1; (focus (intro _; simp; with_reducible exact rfl))) | (guard_target =~ wpList _ _ _ (Oper.mk _ (.box _ _) _ _ _ _ :: _) _ _; refine BigFrame.wpList_want rfl (fun K hK => ?_); refine o_box rfl H rfl (fun w3 b2 he H2 => hK _ _ ?_))); clear hK K he; clear H; (try clear w2); revert w3; intro w2 H; (try simp [Act.eval, List.getD, he] at H); (try simp [Value.cells, setL, he] at H); (first | (clear tk0; rename Nat => b1) | (clear tk1; rename Nat => b2) | (clear tk2; rename Nat => b3)))); simp only [Act.put, List.setIfInBounds_toArray, List.set_cons_succ, List.set_cons_zero, he])
    | (guard_target =~ wpTreeC _ _ _ _ _ _ _; first | (guard_target =~ wpTreeC _ _ _ (Tr.e _ Tr.nil) _ _ _; refine treeC_last (by decide +kernel) H rfl rfl (fun w3 H2 K hK => ?_); clear H; (try clear w2); (revert w3; intro w2 H); simp only [List.getElem_toArray, List.getElem_cons_succ, List.getElem_cons_zero]; (first | fail); simp only [Act.put, List.setIfInBounds_toArray, List.set_cons_succ, List.set_cons_zero, he]) | (guard_target =~ wpTreeC _ _ _ (Tr.q _ _) _ _ _; first | (refine treeC_quiet ⟨_, H, by repeat first | exact .here | apply Suf.there⟩ rfl rfl rfl (fun K hK => ?_); simp only [List.getElem_toArray, List.getElem_cons_succ, List.getElem_cons_zero]; first | (guard_target =~ Oper.quiet _ (Oper.mk _ (.lookup _ _ _ false) _ _ _ _) _ _ _; refine q_endGet (m := ?_) rfl rfl rfl ?_ (hK _ ?_); rotate_left 1; (repeat first | exact .head _ | apply List.Mem.tail); clear hK K; simp only [Act.put, List.setIfInBounds_toArray, List.set_cons_succ, List.set_cons_zero, he]) | (guard_target =~ Oper.quiet _ (Oper.mk _ (.lookup _ _ _ true) _ _ _ _) _ _ _; refine q_endOk (m := ?_) rfl rfl rfl ?_ (hK _ ?_); rotate_left 1; (repeat first | exact .head _ | apply List.Mem.tail); clear hK K; simp only [Act.put, List.setIfInBounds_toArray, List.set_cons_succ, List.set_cons_zero, he]) | (guard_target =~ Oper.quiet _ (Oper.mk _ (.load _ _) _ _ _ _) _ _ _; (first | (refine q_loadC (v := ?_) (row := ?_) rfl rfl ?_ ?_ ?_ (hK _ ?_); rotate_left 2; (repeat first | exact .head _ | apply List.Mem.tail); (exact rfl); (focus (intro _; simp [he]; done))) | (refine q_loadNC (row := ?_) rfl rfl ?_ ?_ ?_ (hK _ ?_); rotate_left 1; (repeat first | exact .head _ | apply List.Mem.tail); (focus (intro _; simp [he]; done)); (focus (intro _; simp [he]; done)))); clear hK K; simp only [Act.put, List.setIfInBounds_toArray, List.set_cons_succ, List.set_cons_zero, he]) | (go_big_quiet_op; (try refine ⟨_, fun _ _ => rfl, ?_⟩); refine hK _ ?_; clear hK K)) | (refine treeC_call (v := ?_) ⟨_, H, by repeat first | exact .here | apply Suf.there⟩ rfl rfl (fun w3 H K hK => ?_) ?_; rotate_left 1; (focus (simp only [List.getElem_toArray, List.getElem_cons_succ, List.getElem_cons_zero]; first | (go_big_op; first | exact hK _ (Ext.refl _) | (go_at_call 55; (with_reducible refine (h1 _).mono ?_); rintro e w3 ⟨rfl, hb⟩; dsimp only; first | exact hK _ hb | exact hK _ (Ext.refl _))))); simp only [List.getElem_toArray, List.getElem_cons_succ, List.getElem_cons_zero, Act.put, List.setIfInBounds_toArray, List.set_cons_succ, List.set_cons_zero, he]) | (refine treeC_skip ⟨_, H, by repeat first | exact .here | apply Suf.there⟩ rfl rfl ?_; simp only [List.getElem_toArray, List.getElem_cons_succ, List.getElem_cons_zero, Act.put, List.setIfInBounds_toArray, List.set_cons_succ, List.set_cons_zero, he])) | (guard_target =~ wpTreeC _ _ _ (Tr.both _ _) _ _ _; refine treeC_both ?_ ?_) | (guard_target =~ wpTreeC _ _ _ (Tr.e _ _) _ _ _; first | (refine treeC_one H rfl rfl (fun w3 H2 K hK => ?_); clear H; (try clear w2); (revert w3; intro w2 H); simp only [List.getElem_toArray, List.getElem_cons_succ, List.getElem_cons_zero]; first | ((first | fail); simp only [Act.put, List.setIfInBounds_toArray, List.set_cons_succ, List.set_cons_zero, he]) | (go_big_op; (refine hK _ _ ⟨_, H, by repeat first | exact .here | apply Suf.there⟩ ?_; clear hK K; (try simp only [Act.put, List.setIfInBounds_toArray, List.set_cons_succ, List.set_cons_zero, he])))) | (refine treeC_one_skip (fun w3 hx => ⟨_, H.ext hx, by repeat first | exact .here | apply Suf.there⟩) rfl rfl (fun w3 hx => ?_); replace H := H.ext hx; clear hx; (try clear w2); revert w3; intro w2 H; simp only [List.getElem_toArray, List.getElem_cons_succ, List.getElem_cons_zero, Act.put, List.setIfInBounds_toArray, List.set_cons_succ, List.set_cons_zero, he])) | (guard_target =~ wpTreeC _ _ _ Tr.nil _ _ _; refine treeC_nil H (fun w3 H2 => ?_); clear H; (try clear w2); revert w3; intro w2 H)))
  go_loopg [] k (FindRel N P S E ⟨x, y⟩ r B w0 bx ks ke cn cp dn dp b1 b2 b3 l)
  case atStart => exact ⟨nd, 0, HND.out, HD.out, H⟩
  case round =>
    clear H hp HD HND
    obtain ⟨⟨kk, id, ⟨px, py⟩, na, nb⟩, m, hnd, hd, H⟩ := hrel
    simp only [nd6, xB, nG, pG] at H
    have hmN : m < N.length := (List.getElem?_eq_some_iff.1 hnd).1
    cases hd with
    | leaf h hk =>
      obtain ⟨i, p, e1, e2⟩ := HL.out
      rw [hnd] at e1
      injection e1 with e1
      injection e1 with e1 e3 e4 e5 e6
      subst e1 e3 e5 e6
      have hp := p_bot (n := P.length) (b := dp) (c := cp) e2
      have hil : i < P.length := (List.getElem?_eq_some_iff.1 e2).1
      have hz : spotOf N P (.leaf m) = spV 0 p.t.bot := by
        have e7 : idN N m = i := by unfold idN; rw [hnd]; simp
        show spV 0 (((P[idN N m]?).getD pc0).t.bot) = _
        rw [e7, e2]; rfl
      have HZ := Lib.hid hz
      clear h hk e2 hnd hz
      have tk0 : True := trivial
      go_wp2_with (first
        | (guard_target =~ Code.wp _ (Code.region 22 _ true) _ _ _; (replace H:Own _ _ _ (Res.cells b2 _ :: _) := H.front1); refine region_treeC 22 1 (G := True) (.q 0 (.q 4 (.q 5 (.e 1 (.q 2 (.q 3 (.q 6 (.q 7 (.q 8 (.q 9 (.q 10 (.e 11 (.q 12 .nil))))))))))))) (by kernel_rfl) (by intro c a d v w h; cases d <;> first | exact h | exact hQ h) (by kernel_rfl) H ⟨trivial⟩ (fun _ w3 H2 => ?_); (clear H; (try clear w2); revert w3; intro w2 H); simp only [List.drop_succ_cons, List.drop_zero])
        | (guard_target =~ wpList _ _ _ (_ :: _) _ _; (guard_target =~ wpList _ _ _ (Oper.mk _ (.load _ _) _ _ _ _ :: _) _ _; refine BigFrame.wpList_want rfl (fun K hK => ?_); (refine o_loadC (v := ?_) (row := ?_) rfl rfl H ?_ ?_ ?_ (hK _ _ ?_); rotate_left 2; (repeat first | exact .head _ | apply List.Mem.tail); (exact rfl); (focus (intro _; simp; done))); clear hK K); simp only [Act.put, List.setIfInBounds_toArray, List.set_cons_succ, List.set_cons_zero])
        | (guard_target =~ wpTreeC _ _ _ _ _ _ _; first | (guard_target =~ wpTreeC _ _ _ (Tr.e _ Tr.nil) _ _ _; refine treeC_last (by decide +kernel) H rfl rfl (fun w3 H2 K hK => ?_); clear H; (try clear w2); (revert w3; intro w2 H); simp only [List.getElem_toArray, List.getElem_cons_succ, List.getElem_cons_zero]; (first | fail); simp only [Act.put, List.setIfInBounds_toArray, List.set_cons_succ, List.set_cons_zero]) | (guard_target =~ wpTreeC _ _ _ (Tr.q _ _) _ _ _; first | (refine treeC_quiet ⟨_, H, by repeat first | exact .here | apply Suf.there⟩ rfl rfl rfl (fun K hK => ?_); simp only [List.getElem_toArray, List.getElem_cons_succ, List.getElem_cons_zero]; first | (guard_target =~ Oper.quiet _ (Oper.mk _ (.load _ _) _ _ _ _) _ _ _; (first | (refine q_load (v := ?_) (r := ?_) rfl rfl ?_ ?_ ?_ (hK _ ?_); rotate_left 2; (with_reducible assumption); (repeat first | exact .head _ | apply List.Mem.tail); (focus (intro _; simp; done))) | (refine q_loadC (v := ?_) (row := ?_) rfl rfl ?_ ?_ ?_ (hK _ ?_); rotate_left 2; (repeat first | exact .head _ | apply List.Mem.tail); (exact rfl); (focus (intro _; simp; done)))); clear hK K; simp only [Act.put, List.setIfInBounds_toArray, List.set_cons_succ, List.set_cons_zero]) | (go_big_quiet_op; (try refine ⟨_, fun _ _ => rfl, ?_⟩); refine hK _ ?_; clear hK K)) | (refine treeC_call (v := ?_) ⟨_, H, by repeat first | exact .here | apply Suf.there⟩ rfl rfl (fun w3 H K hK => ?_) ?_; rotate_left 1; (focus (simp only [List.getElem_toArray, List.getElem_cons_succ, List.getElem_cons_zero]; first | (go_big_op; first | exact hK _ (Ext.refl _)))); simp only [List.getElem_toArray, List.getElem_cons_succ, List.getElem_cons_zero, Act.put, List.setIfInBounds_toArray, List.set_cons_succ, List.set_cons_zero]) | (refine treeC_skip ⟨_, H, by repeat first | exact .here | apply Suf.there⟩ rfl rfl ?_; simp only [List.getElem_toArray, List.getElem_cons_succ, List.getElem_cons_zero, Act.put, List.setIfInBounds_toArray, List.set_cons_succ, List.set_cons_zero])) | (guard_target =~ wpTreeC _ _ _ (Tr.both _ _) _ _ _; refine treeC_both ?_ ?_) | (guard_target =~ wpTreeC _ _ _ (Tr.e _ _) _ _ _; first | (refine treeC_one H rfl rfl (fun w3 H2 K hK => ?_); clear H; (try clear w2); (revert w3; intro w2 H); simp only [List.getElem_toArray, List.getElem_cons_succ, List.getElem_cons_zero]; first | ((guard_target =~ Oper.wp _ (Oper.mk _ (.store _ _ _) _ _ _ _) _ _ _ _; refine o_store (l' := ?_) (row := ?_) rfl rfl H rfl ?_ ?_ ?_ ?_ (fun w3 H2 => hK _ _ ⟨_, H2, ?_⟩ ?_); rotate_left 2; (exact r0); (focus (intro _; simp [Act.eval, Value.cells]; done)); (focus (simp [Act.eval, Value.cells]; done)); (exact rfl); (guard_target =~ Suf _ _; repeat first | exact .here | apply Suf.there); clear hK K; clear H; (try clear w2); revert w3; intro w2 H; simp [Act.eval, Value.cells, setL, List.getD] at H); simp only [Act.put, List.setIfInBounds_toArray, List.set_cons_succ, List.set_cons_zero]) | (go_big_op; (refine hK _ _ ⟨_, H, by repeat first | exact .here | apply Suf.there⟩ ?_; clear hK K; (try simp only [Act.put, List.setIfInBounds_toArray, List.set_cons_succ, List.set_cons_zero])))) | (refine treeC_one_skip (fun w3 hx => ⟨_, H.ext hx, by repeat first | exact .here | apply Suf.there⟩) rfl rfl (fun w3 hx => ?_); replace H := H.ext hx; clear hx; (try clear w2); revert w3; intro w2 H; simp only [List.getElem_toArray, List.getElem_cons_succ, List.getElem_cons_zero, Act.put, List.setIfInBounds_toArray, List.set_cons_succ, List.set_cons_zero])) | (guard_target =~ wpTreeC _ _ _ Tr.nil _ _ _; refine treeC_nil H (fun w3 H2 => ?_); clear H; (try clear w2); revert w3; intro w2 H)))
      have hr := H.loadVarN (P := Try.prog) (ty := 69) (b := b2) (by exact m0) (by simp) (by simp)
      (try rw [Exit.noGoto_ret])
      exact bodyPost_ret (v := .tuple #[spV 0 p.t.bot, .int .i64 0]) (by simp [results, Try.results41, asAddr, hr]) rfl ⟨by rw [HZ.out], (H.sub (by repeat first | exact List.Sublist.refl _ | apply List.Sublist.cons_cons | apply List.Sublist.cons))⟩
    | @ptL n2 m' k' d r2 h hk hx hm hd' =>
      rw [hnd] at h
      injection h with h
      subst h
      simp only at hk hx hm
      subst hk hm
      obtain ⟨nd', hnd'⟩ := hd'.node
      have hp := n_grow (n := N.length) (b := dn) (c := cn) hnd'
      simp only [nd6] at hp
      have hml : m' < N.length := (List.getElem?_eq_some_iff.1 hnd').1
      have h2 := fun w => geomLess_any x y px py w
      have h3 : ∀ w : World, True := fun _ => trivial
      have hs0 : True := trivial
      rw [hx] at h2
      have HD := Lib.hid hd'
      have HND := Lib.hid hnd'
      clear hd' hnd' hnd hx h3
      have tk0 : True := trivial
      go_wp2_with (first
        | (go_at_call 69; (with_reducible refine (h2 _).mono ?_); rintro e w3 ⟨rfl, hb⟩; replace H := H.ext hb; clear hb; dsimp only; (skip))
        | (guard_target =~ Code.wp _ (Code.region 12 _ true) _ _ _; refine region_treeC0 12 (G := True) (.q 0 (.q 4 (.q 5 (.e 1 (.q 2 (.q 3 (.q 6 (.q 7 (.e 8 .nil))))))))) (by kernel_rfl) (by intro c a d v w h; cases d <;> first | exact h | exact hQ h) (by kernel_rfl) H ⟨trivial⟩ (fun _ w3 H2 => ?_); (clear H; (try clear w2); revert w3; intro w2 H))
        | (guard_target =~ wpList _ _ _ (_ :: _) _ _; (guard_target =~ wpList _ _ _ (Oper.mk _ (.load _ _) _ _ _ _ :: _) _ _; refine BigFrame.wpList_want rfl (fun K hK => ?_); (first | (refine o_loadNp (t0 := ?_) (t1 := ?_) (t2 := ?_) (t3 := ?_) (t4 := ?_) (t5 := ?_) rfl rfl H ?_ ?_ ?_ (hK _ _ ?_); rotate_left 6; (repeat first | exact .head _ | apply List.Mem.tail); (focus (intro _; simp; done)); (focus (intro _; simp; done))) | (refine o_loadC (v := ?_) (row := ?_) rfl rfl H ?_ ?_ ?_ (hK _ _ ?_); rotate_left 2; (repeat first | exact .head _ | apply List.Mem.tail); (exact rfl); (focus (intro _; simp; done))) | (refine o_loadNC (row := ?_) rfl rfl H ?_ ?_ ?_ (hK _ _ ?_); rotate_left 1; (repeat first | exact .head _ | apply List.Mem.tail); (focus (intro _; simp; done)); (focus (intro _; simp; done)))); clear hK K); simp only [Act.put, List.setIfInBounds_toArray, List.set_cons_succ, List.set_cons_zero])
        | (guard_target =~ wpTreeC _ _ _ _ _ _ _; first | (guard_target =~ wpTreeC _ _ _ (Tr.e _ Tr.nil) _ _ _; refine treeC_last (by decide +kernel) H rfl rfl (fun w3 H2 K hK => ?_); clear H; (try clear w2); (revert w3; intro w2 H); simp only [List.getElem_toArray, List.getElem_cons_succ, List.getElem_cons_zero]; (guard_target =~ Oper.wp _ (Oper.mk _ (.store _ _ _) _ _ _ _) _ _ _ _; refine o_store (l' := ?_) (row := ?_) rfl rfl H rfl ?_ ?_ ?_ ?_ (fun w3 H2 => hK _ _ ?_); rotate_left 2; (exact r0); (focus (intro _; simp [Act.eval, Value.cells]; done)); (focus (simp [Act.eval, Value.cells]; done)); (exact rfl); clear hK K; clear H; (try clear w2); revert w3; intro w2 H; simp [Act.eval, Value.cells, setL, List.getD] at H); simp only [Act.put, List.setIfInBounds_toArray, List.set_cons_succ, List.set_cons_zero]) | (guard_target =~ wpTreeC _ _ _ (Tr.q _ _) _ _ _; first | (refine treeC_quiet ⟨_, H, by repeat first | exact .here | apply Suf.there⟩ rfl rfl rfl (fun K hK => ?_); simp only [List.getElem_toArray, List.getElem_cons_succ, List.getElem_cons_zero]; first | (guard_target =~ Oper.quiet _ (Oper.mk _ (.lookup _ _ _ false) _ _ _ _) _ _ _; refine q_segGet (m := ?_) rfl rfl rfl ?_ (hK _ ?_); rotate_left 1; (repeat first | exact .head _ | apply List.Mem.tail); clear hK K; simp only [Act.put, List.setIfInBounds_toArray, List.set_cons_succ, List.set_cons_zero]) | (guard_target =~ Oper.quiet _ (Oper.mk _ (.lookup _ _ _ true) _ _ _ _) _ _ _; refine q_segOk (m := ?_) rfl rfl rfl ?_ (hK _ ?_); rotate_left 1; (repeat first | exact .head _ | apply List.Mem.tail); clear hK K; simp only [Act.put, List.setIfInBounds_toArray, List.set_cons_succ, List.set_cons_zero]) | (guard_target =~ Oper.quiet _ (Oper.mk _ (.load _ _) _ _ _ _) _ _ _; (first | (refine q_loadC (v := ?_) (row := ?_) rfl rfl ?_ ?_ ?_ (hK _ ?_); rotate_left 2; (repeat first | exact .head _ | apply List.Mem.tail); (exact rfl); (focus (intro _; simp; done))) | (refine q_loadN (cs := ?_) (r := ?_) rfl rfl ?_ ?_ ?_ ?_ (hK _ ?_); rotate_left 2; (with_reducible assumption); (repeat first | exact .head _ | apply List.Mem.tail); (focus (intro _; simp; done)); (focus (intro _; simp; done)))); clear hK K; simp only [Act.put, List.setIfInBounds_toArray, List.set_cons_succ, List.set_cons_zero]) | (go_big_quiet_op; (try refine ⟨_, fun _ _ => rfl, ?_⟩); refine hK _ ?_; clear hK K)) | (refine treeC_call (v := ?_) ⟨_, H, by repeat first | exact .here | apply Suf.there⟩ rfl rfl (fun w3 H K hK => ?_) ?_; rotate_left 1; (focus (simp only [List.getElem_toArray, List.getElem_cons_succ, List.getElem_cons_zero]; first | (refine o_segLen (m := ?_) rfl H ?_ ?_; rotate_left 1; (repeat first | exact .head _ | apply List.Mem.tail); exact hK _ (Ext.refl _)) | (go_big_op; first | exact hK _ (Ext.refl _) | (go_at_call 69; (with_reducible refine (h2 _).mono ?_); rintro e w3 ⟨rfl, hb⟩; dsimp only; first | exact hK _ hb | exact hK _ (Ext.refl _))))); simp only [List.getElem_toArray, List.getElem_cons_succ, List.getElem_cons_zero, Act.put, List.setIfInBounds_toArray, List.set_cons_succ, List.set_cons_zero]) | (refine treeC_skip ⟨_, H, by repeat first | exact .here | apply Suf.there⟩ rfl rfl ?_; simp only [List.getElem_toArray, List.getElem_cons_succ, List.getElem_cons_zero, Act.put, List.setIfInBounds_toArray, List.set_cons_succ, List.set_cons_zero])) | (guard_target =~ wpTreeC _ _ _ (Tr.both _ _) _ _ _; refine treeC_both ?_ ?_) | (guard_target =~ wpTreeC _ _ _ (Tr.e _ _) _ _ _; first | (refine treeC_one H rfl rfl (fun w3 H2 K hK => ?_); clear H; (try clear w2); (revert w3; intro w2 H); simp only [List.getElem_toArray, List.getElem_cons_succ, List.getElem_cons_zero]; first | ((first | fail); simp only [Act.put, List.setIfInBounds_toArray, List.set_cons_succ, List.set_cons_zero]) | (go_big_op; (refine hK _ _ ⟨_, H, by repeat first | exact .here | apply Suf.there⟩ ?_; clear hK K; (try simp only [Act.put, List.setIfInBounds_toArray, List.set_cons_succ, List.set_cons_zero])))) | (refine treeC_one_skip (fun w3 hx => ⟨_, H.ext hx, by repeat first | exact .here | apply Suf.there⟩) rfl rfl (fun w3 hx => ?_); replace H := H.ext hx; clear hx; (try clear w2); revert w3; intro w2 H; simp only [List.getElem_toArray, List.getElem_cons_succ, List.getElem_cons_zero, Act.put, List.setIfInBounds_toArray, List.set_cons_succ, List.set_cons_zero])) | (guard_target =~ wpTreeC _ _ _ Tr.nil _ _ _; refine treeC_nil H (fun w3 H2 => ?_); clear H; (try clear w2); revert w3; intro w2 H)))
      go_roundg k'
      case rel => exact ⟨nd', m', HND.out, HD.out, (H.sub (by repeat first | exact List.Sublist.refl _ | apply List.Sublist.cons_cons | apply List.Sublist.cons))⟩
      case measure => omega
    | @ptR n2 m' k' d r2 h hk hx hm hd' =>
      rw [hnd] at h
      injection h with h
      subst h
      simp only at hk hx hm
      subst hk hm
      obtain ⟨nd', hnd'⟩ := hd'.node
      have hp := n_grow (n := N.length) (b := dn) (c := cn) hnd'
      simp only [nd6] at hp
      have hml : m' < N.length := (List.getElem?_eq_some_iff.1 hnd').1
      have h2 := fun w => geomLess_any x y px py w
      have h3 : ∀ w : World, True := fun _ => trivial
      have hs0 : True := trivial
      rw [hx] at h2
      have HD := Lib.hid hd'
      have HND := Lib.hid hnd'
      clear hd' hnd' hnd hx h3
      have tk0 : True := trivial
      go_wp2_with (first
        | (go_at_call 69; (with_reducible refine (h2 _).mono ?_); rintro e w3 ⟨rfl, hb⟩; replace H := H.ext hb; clear hb; dsimp only; (skip))
        | (guard_target =~ Code.wp _ (Code.region 13 _ true) _ _ _; refine region_treeC0 13 (G := True) (.q 0 (.q 4 (.q 5 (.e 1 (.q 2 (.q 3 (.q 6 (.q 7 (.e 8 .nil))))))))) (by kernel_rfl) (by intro c a d v w h; cases d <;> first | exact h | exact hQ h) (by kernel_rfl) H ⟨trivial⟩ (fun _ w3 H2 => ?_); (clear H; (try clear w2); revert w3; intro w2 H))
        | (guard_target =~ wpList _ _ _ (_ :: _) _ _; (guard_target =~ wpList _ _ _ (Oper.mk _ (.load _ _) _ _ _ _ :: _) _ _; refine BigFrame.wpList_want rfl (fun K hK => ?_); (first | (refine o_loadNp (t0 := ?_) (t1 := ?_) (t2 := ?_) (t3 := ?_) (t4 := ?_) (t5 := ?_) rfl rfl H ?_ ?_ ?_ (hK _ _ ?_); rotate_left 6; (repeat first | exact .head _ | apply List.Mem.tail); (focus (intro _; simp; done)); (focus (intro _; simp; done))) | (refine o_loadC (v := ?_) (row := ?_) rfl rfl H ?_ ?_ ?_ (hK _ _ ?_); rotate_left 2; (repeat first | exact .head _ | apply List.Mem.tail); (exact rfl); (focus (intro _; simp; done))) | (refine o_loadNC (row := ?_) rfl rfl H ?_ ?_ ?_ (hK _ _ ?_); rotate_left 1; (repeat first | exact .head _ | apply List.Mem.tail); (focus (intro _; simp; done)); (focus (intro _; simp; done)))); clear hK K); simp only [Act.put, List.setIfInBounds_toArray, List.set_cons_succ, List.set_cons_zero])
        | (guard_target =~ wpTreeC _ _ _ _ _ _ _; first | (guard_target =~ wpTreeC _ _ _ (Tr.e _ Tr.nil) _ _ _; refine treeC_last (by decide +kernel) H rfl rfl (fun w3 H2 K hK => ?_); clear H; (try clear w2); (revert w3; intro w2 H); simp only [List.getElem_toArray, List.getElem_cons_succ, List.getElem_cons_zero]; (guard_target =~ Oper.wp _ (Oper.mk _ (.store _ _ _) _ _ _ _) _ _ _ _; refine o_store (l' := ?_) (row := ?_) rfl rfl H rfl ?_ ?_ ?_ ?_ (fun w3 H2 => hK _ _ ?_); rotate_left 2; (exact r0); (focus (intro _; simp [Act.eval, Value.cells]; done)); (focus (simp [Act.eval, Value.cells]; done)); (exact rfl); clear hK K; clear H; (try clear w2); revert w3; intro w2 H; simp [Act.eval, Value.cells, setL, List.getD] at H); simp only [Act.put, List.setIfInBounds_toArray, List.set_cons_succ, List.set_cons_zero]) | (guard_target =~ wpTreeC _ _ _ (Tr.q _ _) _ _ _; first | (refine treeC_quiet ⟨_, H, by repeat first | exact .here | apply Suf.there⟩ rfl rfl rfl (fun K hK => ?_); simp only [List.getElem_toArray, List.getElem_cons_succ, List.getElem_cons_zero]; first | (guard_target =~ Oper.quiet _ (Oper.mk _ (.lookup _ _ _ false) _ _ _ _) _ _ _; refine q_segGet (m := ?_) rfl rfl rfl ?_ (hK _ ?_); rotate_left 1; (repeat first | exact .head _ | apply List.Mem.tail); clear hK K; simp only [Act.put, List.setIfInBounds_toArray, List.set_cons_succ, List.set_cons_zero]) | (guard_target =~ Oper.quiet _ (Oper.mk _ (.lookup _ _ _ true) _ _ _ _) _ _ _; refine q_segOk (m := ?_) rfl rfl rfl ?_ (hK _ ?_); rotate_left 1; (repeat first | exact .head _ | apply List.Mem.tail); clear hK K; simp only [Act.put, List.setIfInBounds_toArray, List.set_cons_succ, List.set_cons_zero]) | (guard_target =~ Oper.quiet _ (Oper.mk _ (.load _ _) _ _ _ _) _ _ _; (first | (refine q_loadC (v := ?_) (row := ?_) rfl rfl ?_ ?_ ?_ (hK _ ?_); rotate_left 2; (repeat first | exact .head _ | apply List.Mem.tail); (exact rfl); (focus (intro _; simp; done))) | (refine q_loadN (cs := ?_) (r := ?_) rfl rfl ?_ ?_ ?_ ?_ (hK _ ?_); rotate_left 2; (with_reducible assumption); (repeat first | exact .head _ | apply List.Mem.tail); (focus (intro _; simp; done)); (focus (intro _; simp; done)))); clear hK K; simp only [Act.put, List.setIfInBounds_toArray, List.set_cons_succ, List.set_cons_zero]) | (go_big_quiet_op; (try refine ⟨_, fun _ _ => rfl, ?_⟩); refine hK _ ?_; clear hK K)) | (refine treeC_call (v := ?_) ⟨_, H, by repeat first | exact .here | apply Suf.there⟩ rfl rfl (fun w3 H K hK => ?_) ?_; rotate_left 1; (focus (simp only [List.getElem_toArray, List.getElem_cons_succ, List.getElem_cons_zero]; first | (refine o_segLen (m := ?_) rfl H ?_ ?_; rotate_left 1; (repeat first | exact .head _ | apply List.Mem.tail); exact hK _ (Ext.refl _)) | (go_big_op; first | exact hK _ (Ext.refl _) | (go_at_call 69; (with_reducible refine (h2 _).mono ?_); rintro e w3 ⟨rfl, hb⟩; dsimp only; first | exact hK _ hb | exact hK _ (Ext.refl _))))); simp only [List.getElem_toArray, List.getElem_cons_succ, List.getElem_cons_zero, Act.put, List.setIfInBounds_toArray, List.set_cons_succ, List.set_cons_zero]) | (refine treeC_skip ⟨_, H, by repeat first | exact .here | apply Suf.there⟩ rfl rfl ?_; simp only [List.getElem_toArray, List.getElem_cons_succ, List.getElem_cons_zero, Act.put, List.setIfInBounds_toArray, List.set_cons_succ, List.set_cons_zero])) | (guard_target =~ wpTreeC _ _ _ (Tr.both _ _) _ _ _; refine treeC_both ?_ ?_) | (guard_target =~ wpTreeC _ _ _ (Tr.e _ _) _ _ _; first | (refine treeC_one H rfl rfl (fun w3 H2 K hK => ?_); clear H; (try clear w2); (revert w3; intro w2 H); simp only [List.getElem_toArray, List.getElem_cons_succ, List.getElem_cons_zero]; first | ((first | fail); simp only [Act.put, List.setIfInBounds_toArray, List.set_cons_succ, List.set_cons_zero]) | (go_big_op; (refine hK _ _ ⟨_, H, by repeat first | exact .here | apply Suf.there⟩ ?_; clear hK K; (try simp only [Act.put, List.setIfInBounds_toArray, List.set_cons_succ, List.set_cons_zero])))) | (refine treeC_one_skip (fun w3 hx => ⟨_, H.ext hx, by repeat first | exact .here | apply Suf.there⟩) rfl rfl (fun w3 hx => ?_); replace H := H.ext hx; clear hx; (try clear w2); revert w3; intro w2 H; simp only [List.getElem_toArray, List.getElem_cons_succ, List.getElem_cons_zero, Act.put, List.setIfInBounds_toArray, List.set_cons_succ, List.set_cons_zero])) | (guard_target =~ wpTreeC _ _ _ Tr.nil _ _ _; refine treeC_nil H (fun w3 H2 => ?_); clear H; (try clear w2); revert w3; intro w2 H)))
      go_roundg k'
      case rel => exact ⟨nd', m', HND.out, HD.out, (H.sub (by repeat first | exact List.Sublist.refl _ | apply List.Sublist.cons_cons | apply List.Sublist.cons))⟩
      case measure => omega
    | @lnU n2 m' k' d r2 h hk hx hm hd' =>
      rw [hnd] at h
      injection h with h
      subst h
      simp only at hk hx hm
      subst hk hm
      obtain ⟨nd', hnd'⟩ := hd'.node
      have hp := n_grow (n := N.length) (b := dn) (c := cn) hnd'
      simp only [nd6] at hp
      have hml : m' < N.length := (List.getElem?_eq_some_iff.1 hnd').1
      obtain ⟨⟨⟨ax, ay⟩, ⟨sx, sy⟩⟩, hs0⟩ : ∃ s, (getA S id).getD zSg = s := ⟨_, rfl⟩
      have h3 := fun w => geomTurn_any ax ay sx sy x y w
      unfold sgOf at hx
      rw [hs0] at hx
      simp only at hx
      rw [hx] at h3
      have HD := Lib.hid hd'
      have HND := Lib.hid hnd'
      clear hd' hnd' hnd hx
      have tk0 : True := trivial
      go_wp2_with (first
        | (go_at_call 70; (with_reducible refine (h3 _).mono ?_); rintro e w3 ⟨rfl, hb⟩; replace H := H.ext hb; clear hb; dsimp only; (skip))
        | (guard_target =~ Code.wp _ (Code.region 15 _ true) _ _ _; refine region_treeC0 15 (G := True) (.q 0 (.q 1 (.q 2 (.q 3 (.q 4 (.q 5 (.q 6 (.e 7 (.e 8 .nil))))))))) (by kernel_rfl) (by intro c a d v w h; cases d <;> first | exact h | exact hQ h) (by kernel_rfl) H ⟨trivial⟩ (fun _ w3 H2 => ?_); (clear H; (try clear w2); revert w3; intro w2 H))
        | (guard_target =~ Code.wp _ (Code.region 19 _ true) _ _ _; refine region_treeC0 19 (G := True) (.q 0 (.q 4 (.q 5 (.e 1 (.q 2 (.q 3 (.q 6 (.q 7 (.e 8 .nil))))))))) (by kernel_rfl) (by intro c a d v w h; cases d <;> first | exact h | exact hQ h) (by kernel_rfl) H ⟨trivial⟩ (fun _ w3 H2 => ?_); (clear H; (try clear w2); revert w3; intro w2 H))
        | (guard_target =~ wpList _ _ _ (_ :: _) _ _; (guard_target =~ wpList _ _ _ (Oper.mk _ (.load _ _) _ _ _ _ :: _) _ _; refine BigFrame.wpList_want rfl (fun K hK => ?_); (first | (refine o_loadSa (t0 := ?_) (t1 := ?_) (t2 := ?_) (t3 := ?_) rfl rfl H ?_ ?_ ?_ (hK _ _ ?_); rotate_left 4; (repeat first | exact .head _ | apply List.Mem.tail); (focus (intro _; simp [hs0]; done)); (focus (intro _; simp [hs0]; done))) | (refine o_loadSb (t0 := ?_) (t1 := ?_) (t2 := ?_) (t3 := ?_) rfl rfl H ?_ ?_ ?_ (hK _ _ ?_); rotate_left 4; (repeat first | exact .head _ | apply List.Mem.tail); (focus (intro _; simp [hs0]; done)); (focus (intro _; simp [hs0]; done))) | (refine o_loadC (v := ?_) (row := ?_) rfl rfl H ?_ ?_ ?_ (hK _ _ ?_); rotate_left 2; (repeat first | exact .head _ | apply List.Mem.tail); (exact rfl); (focus (intro _; simp [hs0]; done))) | (refine o_loadNC (row := ?_) rfl rfl H ?_ ?_ ?_ (hK _ _ ?_); rotate_left 1; (repeat first | exact .head _ | apply List.Mem.tail); (focus (intro _; simp [hs0]; done)); (focus (intro _; simp [hs0]; done)))); clear hK K); simp only [Act.put, List.setIfInBounds_toArray, List.set_cons_succ, List.set_cons_zero, hs0])
        | (guard_target =~ wpTreeC _ _ _ _ _ _ _; first | (guard_target =~ wpTreeC _ _ _ (Tr.e _ Tr.nil) _ _ _; refine treeC_last (by decide +kernel) H rfl rfl (fun w3 H2 K hK => ?_); clear H; (try clear w2); (revert w3; intro w2 H); simp only [List.getElem_toArray, List.getElem_cons_succ, List.getElem_cons_zero]; (guard_target =~ Oper.wp _ (Oper.mk _ (.store _ _ _) _ _ _ _) _ _ _ _; refine o_store (l' := ?_) (row := ?_) rfl rfl H rfl ?_ ?_ ?_ ?_ (fun w3 H2 => hK _ _ ?_); rotate_left 2; (first | exact r0 | exact r1); (focus (intro _; (simp [Act.eval, Value.cells, List.getD, hs0]; done))); (focus (simp [Act.eval, Value.cells, List.getD, hs0]; done)); (exact rfl); clear hK K; clear H; (try clear w2); revert w3; intro w2 H; (try simp [Act.eval, List.getD, hs0] at H); (try simp [Value.cells, setL, hs0] at H)); simp only [Act.put, List.setIfInBounds_toArray, List.set_cons_succ, List.set_cons_zero, hs0]) | (guard_target =~ wpTreeC _ _ _ (Tr.q _ _) _ _ _; first | (refine treeC_quiet ⟨_, H, by repeat first | exact .here | apply Suf.there⟩ rfl rfl rfl (fun K hK => ?_); simp only [List.getElem_toArray, List.getElem_cons_succ, List.getElem_cons_zero]; first | (guard_target =~ Oper.quiet _ (Oper.mk _ (.lookup _ _ _ false) _ _ _ _) _ _ _; refine q_segGet (m := ?_) rfl rfl rfl ?_ (hK _ ?_); rotate_left 1; (repeat first | exact .head _ | apply List.Mem.tail); clear hK K; simp only [Act.put, List.setIfInBounds_toArray, List.set_cons_succ, List.set_cons_zero, hs0]) | (guard_target =~ Oper.quiet _ (Oper.mk _ (.lookup _ _ _ true) _ _ _ _) _ _ _; refine q_segOk (m := ?_) rfl rfl rfl ?_ (hK _ ?_); rotate_left 1; (repeat first | exact .head _ | apply List.Mem.tail); clear hK K; simp only [Act.put, List.setIfInBounds_toArray, List.set_cons_succ, List.set_cons_zero, hs0]) | (guard_target =~ Oper.quiet _ (Oper.mk _ (.load _ _) _ _ _ _) _ _ _; (first | (refine q_loadC (v := ?_) (row := ?_) rfl rfl ?_ ?_ ?_ (hK _ ?_); rotate_left 2; (repeat first | exact .head _ | apply List.Mem.tail); (exact rfl); (focus (intro _; simp [hs0]; done))) | (refine q_loadN (cs := ?_) (r := ?_) rfl rfl ?_ ?_ ?_ ?_ (hK _ ?_); rotate_left 2; (with_reducible assumption); (repeat first | exact .head _ | apply List.Mem.tail); (focus (intro _; simp [hs0]; done)); (focus (intro _; simp [hs0]; done)))); clear hK K; simp only [Act.put, List.setIfInBounds_toArray, List.set_cons_succ, List.set_cons_zero, hs0]) | (go_big_quiet_op; (try refine ⟨_, fun _ _ => rfl, ?_⟩); refine hK _ ?_; clear hK K)) | (refine treeC_call (v := ?_) ⟨_, H, by repeat first | exact .here | apply Suf.there⟩ rfl rfl (fun w3 H K hK => ?_) ?_; rotate_left 1; (focus (simp only [List.getElem_toArray, List.getElem_cons_succ, List.getElem_cons_zero]; first | (refine o_segLen (m := ?_) rfl H ?_ ?_; rotate_left 1; (repeat first | exact .head _ | apply List.Mem.tail); exact hK _ (Ext.refl _)) | (go_big_op; first | exact hK _ (Ext.refl _) | (go_at_call 70; (with_reducible refine (h3 _).mono ?_); rintro e w3 ⟨rfl, hb⟩; dsimp only; first | exact hK _ hb | exact hK _ (Ext.refl _))))); simp only [List.getElem_toArray, List.getElem_cons_succ, List.getElem_cons_zero, Act.put, List.setIfInBounds_toArray, List.set_cons_succ, List.set_cons_zero, hs0]) | (refine treeC_skip ⟨_, H, by repeat first | exact .here | apply Suf.there⟩ rfl rfl ?_; simp only [List.getElem_toArray, List.getElem_cons_succ, List.getElem_cons_zero, Act.put, List.setIfInBounds_toArray, List.set_cons_succ, List.set_cons_zero, hs0])) | (guard_target =~ wpTreeC _ _ _ (Tr.both _ _) _ _ _; refine treeC_both ?_ ?_) | (guard_target =~ wpTreeC _ _ _ (Tr.e _ _) _ _ _; first | (refine treeC_one H rfl rfl (fun w3 H2 K hK => ?_); clear H; (try clear w2); (revert w3; intro w2 H); simp only [List.getElem_toArray, List.getElem_cons_succ, List.getElem_cons_zero]; first | (((guard_target =~ Oper.wp _ (Oper.mk _ (.alloc _) _ _ _ _) _ _ _ _; refine o_alloc (z := ?_) rfl ?_ H rfl (fun w3 b2 he H2 => hK _ _ ⟨_, H2, ?_⟩ ?_); rotate_left 1; (focus (intro _; simp; with_reducible exact rfl))); (guard_target =~ Suf _ _; repeat first | exact .here | apply Suf.there); clear hK K he; clear H; (try clear w2); revert w3; intro w2 H; (try simp [Act.eval, List.getD, hs0] at H); (try simp [Value.cells, setL, hs0] at H); (clear tk0; rename Nat => b7)); simp only [Act.put, List.setIfInBounds_toArray, List.set_cons_succ, List.set_cons_zero, hs0]) | (go_big_op; (refine hK _ _ ⟨_, H, by repeat first | exact .here | apply Suf.there⟩ ?_; clear hK K; (try simp only [Act.put, List.setIfInBounds_toArray, List.set_cons_succ, List.set_cons_zero, hs0])))) | (refine treeC_one_skip (fun w3 hx => ⟨_, H.ext hx, by repeat first | exact .here | apply Suf.there⟩) rfl rfl (fun w3 hx => ?_); replace H := H.ext hx; clear hx; (try clear w2); revert w3; intro w2 H; simp only [List.getElem_toArray, List.getElem_cons_succ, List.getElem_cons_zero, Act.put, List.setIfInBounds_toArray, List.set_cons_succ, List.set_cons_zero, hs0])) | (guard_target =~ wpTreeC _ _ _ Tr.nil _ _ _; refine treeC_nil H (fun w3 H2 => ?_); clear H; (try clear w2); revert w3; intro w2 H)))
      go_roundg k'
      case rel => exact ⟨nd', m', HND.out, HD.out, (H.sub (by repeat first | exact List.Sublist.refl _ | apply List.Sublist.cons_cons | apply List.Sublist.cons))⟩
      case measure => omega
    | @lnD n2 m' k' d r2 h hk hx hm hd' =>
      rw [hnd] at h
      injection h with h
      subst h
      simp only at hk hx hm
      subst hk hm
      obtain ⟨nd', hnd'⟩ := hd'.node
      have hp := n_grow (n := N.length) (b := dn) (c := cn) hnd'
      simp only [nd6] at hp
      have hml : m' < N.length := (List.getElem?_eq_some_iff.1 hnd').1
      obtain ⟨⟨⟨ax, ay⟩, ⟨sx, sy⟩⟩, hs0⟩ : ∃ s, (getA S id).getD zSg = s := ⟨_, rfl⟩
      have h3 := fun w => geomTurn_any ax ay sx sy x y w
      unfold sgOf at hx
      rw [hs0] at hx
      simp only at hx
      rw [hx] at h3
      have HD := Lib.hid hd'
      have HND := Lib.hid hnd'
      clear hd' hnd' hnd hx
      have tk0 : True := trivial
      go_wp2_with (first
        | (go_at_call 70; (with_reducible refine (h3 _).mono ?_); rintro e w3 ⟨rfl, hb⟩; replace H := H.ext hb; clear hb; dsimp only; (skip))
        | (guard_target =~ Code.wp _ (Code.region 15 _ true) _ _ _; refine region_treeC0 15 (G := True) (.q 0 (.q 1 (.q 2 (.q 3 (.q 4 (.q 5 (.q 6 (.e 7 (.e 8 .nil))))))))) (by kernel_rfl) (by intro c a d v w h; cases d <;> first | exact h | exact hQ h) (by kernel_rfl) H ⟨trivial⟩ (fun _ w3 H2 => ?_); (clear H; (try clear w2); revert w3; intro w2 H))
        | (guard_target =~ Code.wp _ (Code.region 21 _ true) _ _ _; refine region_treeC0 21 (G := True) (.q 0 (.q 4 (.q 5 (.e 1 (.q 2 (.q 3 (.q 6 (.q 7 (.e 8 .nil))))))))) (by kernel_rfl) (by intro c a d v w h; cases d <;> first | exact h | exact hQ h) (by kernel_rfl) H ⟨trivial⟩ (fun _ w3 H2 => ?_); (clear H; (try clear w2); revert w3; intro w2 H))
        | (guard_target =~ wpList _ _ _ (_ :: _) _ _; (guard_target =~ wpList _ _ _ (Oper.mk _ (.load _ _) _ _ _ _ :: _) _ _; refine BigFrame.wpList_want rfl (fun K hK => ?_); (first | (refine o_loadSa (t0 := ?_) (t1 := ?_) (t2 := ?_) (t3 := ?_) rfl rfl H ?_ ?_ ?_ (hK _ _ ?_); rotate_left 4; (repeat first | exact .head _ | apply List.Mem.tail); (focus (intro _; simp [hs0]; done)); (focus (intro _; simp [hs0]; done))) | (refine o_loadSb (t0 := ?_) (t1 := ?_) (t2 := ?_) (t3 := ?_) rfl rfl H ?_ ?_ ?_ (hK _ _ ?_); rotate_left 4; (repeat first | exact .head _ | apply List.Mem.tail); (focus (intro _; simp [hs0]; done)); (focus (intro _; simp [hs0]; done))) | (refine o_loadC (v := ?_) (row := ?_) rfl rfl H ?_ ?_ ?_ (hK _ _ ?_); rotate_left 2; (repeat first | exact .head _ | apply List.Mem.tail); (exact rfl); (focus (intro _; simp [hs0]; done))) | (refine o_loadNC (row := ?_) rfl rfl H ?_ ?_ ?_ (hK _ _ ?_); rotate_left 1; (repeat first | exact .head _ | apply List.Mem.tail); (focus (intro _; simp [hs0]; done)); (focus (intro _; simp [hs0]; done)))); clear hK K); simp only [Act.put, List.setIfInBounds_toArray, List.set_cons_succ, List.set_cons_zero, hs0])
        | (guard_target =~ wpTreeC _ _ _ _ _ _ _; first | (guard_target =~ wpTreeC _ _ _ (Tr.e _ Tr.nil) _ _ _; refine treeC_last (by decide +kernel) H rfl rfl (fun w3 H2 K hK => ?_); clear H; (try clear w2); (revert w3; intro w2 H); simp only [List.getElem_toArray, List.getElem_cons_succ, List.getElem_cons_zero]; (guard_target =~ Oper.wp _ (Oper.mk _ (.store _ _ _) _ _ _ _) _ _ _ _; refine o_store (l' := ?_) (row := ?_) rfl rfl H rfl ?_ ?_ ?_ ?_ (fun w3 H2 => hK _ _ ?_); rotate_left 2; (first | exact r0 | exact r1); (focus (intro _; (simp [Act.eval, Value.cells, List.getD, hs0]; done))); (focus (simp [Act.eval, Value.cells, List.getD, hs0]; done)); (exact rfl); clear hK K; clear H; (try clear w2); revert w3; intro w2 H; (try simp [Act.eval, List.getD, hs0] at H); (try simp [Value.cells, setL, hs0] at H)); simp only [Act.put, List.setIfInBounds_toArray, List.set_cons_succ, List.set_cons_zero, hs0]) | (guard_target =~ wpTreeC _ _ _ (Tr.q _ _) _ _ _; first | (refine treeC_quiet ⟨_, H, by repeat first | exact .here | apply Suf.there⟩ rfl rfl rfl (fun K hK => ?_); simp only [List.getElem_toArray, List.getElem_cons_succ, List.getElem_cons_zero]; first | (guard_target =~ Oper.quiet _ (Oper.mk _ (.lookup _ _ _ false) _ _ _ _) _ _ _; refine q_segGet (m := ?_) rfl rfl rfl ?_ (hK _ ?_); rotate_left 1; (repeat first | exact .head _ | apply List.Mem.tail); clear hK K; simp only [Act.put, List.setIfInBounds_toArray, List.set_cons_succ, List.set_cons_zero, hs0]) | (guard_target =~ Oper.quiet _ (Oper.mk _ (.lookup _ _ _ true) _ _ _ _) _ _ _; refine q_segOk (m := ?_) rfl rfl rfl ?_ (hK _ ?_); rotate_left 1; (repeat first | exact .head _ | apply List.Mem.tail); clear hK K; simp only [Act.put, List.setIfInBounds_toArray, List.set_cons_succ, List.set_cons_zero, hs0]) | (guard_target =~ Oper.quiet _ (Oper.mk _ (.load _ _) _ _ _ _) _ _ _; (first | (refine q_loadC (v := ?_) (row := ?_) rfl rfl ?_ ?_ ?_ (hK _ ?_); rotate_left 2; (repeat first | exact .head _ | apply List.Mem.tail); (exact rfl); (focus (intro _; simp [hs0]; done))) | (refine q_loadN (cs := ?_) (r := ?_) rfl rfl ?_ ?_ ?_ ?_ (hK _ ?_); rotate_left 2; (with_reducible assumption); (repeat first | exact .head _ | apply List.Mem.tail); (focus (intro _; simp [hs0]; done)); (focus (intro _; simp [hs0]; done)))); clear hK K; simp only [Act.put, List.setIfInBounds_toArray, List.set_cons_succ, List.set_cons_zero, hs0]) | (go_big_quiet_op; (try refine ⟨_, fun _ _ => rfl, ?_⟩); refine hK _ ?_; clear hK K)) | (refine treeC_call (v := ?_) ⟨_, H, by repeat first | exact .here | apply Suf.there⟩ rfl rfl (fun w3 H K hK => ?_) ?_; rotate_left 1; (focus (simp only [List.getElem_toArray, List.getElem_cons_succ, List.getElem_cons_zero]; first | (refine o_segLen (m := ?_) rfl H ?_ ?_; rotate_left 1; (repeat first | exact .head _ | apply List.Mem.tail); exact hK _ (Ext.refl _)) | (go_big_op; first | exact hK _ (Ext.refl _) | (go_at_call 70; (with_reducible refine (h3 _).mono ?_); rintro e w3 ⟨rfl, hb⟩; dsimp only; first | exact hK _ hb | exact hK _ (Ext.refl _))))); simp only [List.getElem_toArray, List.getElem_cons_succ, List.getElem_cons_zero, Act.put, List.setIfInBounds_toArray, List.set_cons_succ, List.set_cons_zero, hs0]) | (refine treeC_skip ⟨_, H, by repeat first | exact .here | apply Suf.there⟩ rfl rfl ?_; simp only [List.getElem_toArray, List.getElem_cons_succ, List.getElem_cons_zero, Act.put, List.setIfInBounds_toArray, List.set_cons_succ, List.set_cons_zero, hs0])) | (guard_target =~ wpTreeC _ _ _ (Tr.both _ _) _ _ _; refine treeC_both ?_ ?_) | (guard_target =~ wpTreeC _ _ _ (Tr.e _ _) _ _ _; first | (refine treeC_one H rfl rfl (fun w3 H2 K hK => ?_); clear H; (try clear w2); (revert w3; intro w2 H); simp only [List.getElem_toArray, List.getElem_cons_succ, List.getElem_cons_zero]; first | (((guard_target =~ Oper.wp _ (Oper.mk _ (.alloc _) _ _ _ _) _ _ _ _; refine o_alloc (z := ?_) rfl ?_ H rfl (fun w3 b2 he H2 => hK _ _ ⟨_, H2, ?_⟩ ?_); rotate_left 1; (focus (intro _; simp; with_reducible exact rfl))); (guard_target =~ Suf _ _; repeat first | exact .here | apply Suf.there); clear hK K he; clear H; (try clear w2); revert w3; intro w2 H; (try simp [Act.eval, List.getD, hs0] at H); (try simp [Value.cells, setL, hs0] at H); (clear tk0; rename Nat => b7)); simp only [Act.put, List.setIfInBounds_toArray, List.set_cons_succ, List.set_cons_zero, hs0]) | (go_big_op; (refine hK _ _ ⟨_, H, by repeat first | exact .here | apply Suf.there⟩ ?_; clear hK K; (try simp only [Act.put, List.setIfInBounds_toArray, List.set_cons_succ, List.set_cons_zero, hs0])))) | (refine treeC_one_skip (fun w3 hx => ⟨_, H.ext hx, by repeat first | exact .here | apply Suf.there⟩) rfl rfl (fun w3 hx => ?_); replace H := H.ext hx; clear hx; (try clear w2); revert w3; intro w2 H; simp only [List.getElem_toArray, List.getElem_cons_succ, List.getElem_cons_zero, Act.put, List.setIfInBounds_toArray, List.set_cons_succ, List.set_cons_zero, hs0])) | (guard_target =~ wpTreeC _ _ _ Tr.nil _ _ _; refine treeC_nil H (fun w3 H2 => ?_); clear H; (try clear w2); revert w3; intro w2 H)))
      go_roundg k'
      case rel => exact ⟨nd', m', HND.out, HD.out, (H.sub (by repeat first | exact List.Sublist.refl _ | apply List.Sublist.cons_cons | apply List.Sublist.cons))⟩
      case measure => omega
    | @on n2 d h hk hx =>
      rw [hnd] at h
      injection h with h
      subst h
      simp only at hk hx
      subst hk
      obtain ⟨⟨⟨ax, ay⟩, ⟨sx, sy⟩⟩, hs0⟩ : ∃ s, (getA S id).getD zSg = s := ⟨_, rfl⟩
      have h3 := fun w => geomTurn_any ax ay sx sy x y w
      unfold sgOf at hx
      rw [hs0] at hx
      simp only at hx
      rw [hx] at h3
      clear hnd hx
      have tk0 : True := trivial
      go_wp2_with (first
        | (go_at_call 70; (with_reducible refine (h3 _).mono ?_); rintro e w3 ⟨rfl, hb⟩; replace H := H.ext hb; clear hb; dsimp only; (skip))
        | (guard_target =~ Code.wp _ (Code.region 15 _ true) _ _ _; refine region_treeC0 15 (G := True) (.q 0 (.q 1 (.q 2 (.q 3 (.q 4 (.q 5 (.q 6 (.e 7 (.e 8 .nil))))))))) (by kernel_rfl) (by intro c a d v w h; cases d <;> first | exact h | exact hQ h) (by kernel_rfl) H ⟨trivial⟩ (fun _ w3 H2 => ?_); (clear H; (try clear w2); revert w3; intro w2 H))
        | (guard_target =~ wpList _ _ _ (_ :: _) _ _; (first | (guard_target =~ wpList _ _ _ (Oper.mk _ (.load _ _) _ _ _ _ :: _) _ _; refine BigFrame.wpList_want rfl (fun K hK => ?_); (first | (refine o_loadSa (t0 := ?_) (t1 := ?_) (t2 := ?_) (t3 := ?_) rfl rfl H ?_ ?_ ?_ (hK _ _ ?_); rotate_left 4; (repeat first | exact .head _ | apply List.Mem.tail); (focus (intro _; simp [hs0]; done)); (focus (intro _; simp [hs0]; done))) | (refine o_loadSb (t0 := ?_) (t1 := ?_) (t2 := ?_) (t3 := ?_) rfl rfl H ?_ ?_ ?_ (hK _ _ ?_); rotate_left 4; (repeat first | exact .head _ | apply List.Mem.tail); (focus (intro _; simp [hs0]; done)); (focus (intro _; simp [hs0]; done))) | (refine o_loadC (v := ?_) (row := ?_) rfl rfl H ?_ ?_ ?_ (hK _ _ ?_); rotate_left 2; (repeat first | exact .head _ | apply List.Mem.tail); (exact rfl); (focus (intro _; simp [hs0]; done))) | (refine o_loadNC (row := ?_) rfl rfl H ?_ ?_ ?_ (hK _ _ ?_); rotate_left 1; (repeat first | exact .head _ | apply List.Mem.tail); (focus (intro _; simp [hs0]; done)); (focus (intro _; simp [hs0]; done)))); clear hK K) | (guard_target =~ wpList _ _ _ (Oper.mk _ (.store _ _ _) _ _ _ _ :: _) _ _; refine BigFrame.wpList_want rfl (fun K hK => ?_); refine o_store (l' := ?_) (row := ?_) rfl rfl H rfl ?_ ?_ ?_ ?_ (fun w3 H2 => hK _ _ ?_); rotate_left 2; (exact r2); (focus (intro _; (simp [Act.eval, Value.cells, List.getD, hs0]; done))); (focus (simp [Act.eval, Value.cells, List.getD, hs0]; done)); (exact rfl); clear hK K; clear H; (try clear w2); revert w3; intro w2 H; (try simp [Act.eval, List.getD, hs0] at H); (try simp [Value.cells, setL, hs0] at H))); simp only [Act.put, List.setIfInBounds_toArray, List.set_cons_succ, List.set_cons_zero, hs0])
        | (guard_target =~ wpTreeC _ _ _ _ _ _ _; first | (guard_target =~ wpTreeC _ _ _ (Tr.e _ Tr.nil) _ _ _; refine treeC_last (by decide +kernel) H rfl rfl (fun w3 H2 K hK => ?_); clear H; (try clear w2); (revert w3; intro w2 H); simp only [List.getElem_toArray, List.getElem_cons_succ, List.getElem_cons_zero]; (guard_target =~ Oper.wp _ (Oper.mk _ (.store _ _ _) _ _ _ _) _ _ _ _; refine o_store (l' := ?_) (row := ?_) rfl rfl H rfl ?_ ?_ ?_ ?_ (fun w3 H2 => hK _ _ ?_); rotate_left 2; (exact r0); (focus (intro _; (simp [Act.eval, Value.cells, List.getD, hs0]; done))); (focus (simp [Act.eval, Value.cells, List.getD, hs0]; done)); (exact rfl); clear hK K; clear H; (try clear w2); revert w3; intro w2 H; (try simp [Act.eval, List.getD, hs0] at H); (try simp [Value.cells, setL, hs0] at H)); simp only [Act.put, List.setIfInBounds_toArray, List.set_cons_succ, List.set_cons_zero, hs0]) | (guard_target =~ wpTreeC _ _ _ (Tr.q _ _) _ _ _; first | (refine treeC_quiet ⟨_, H, by repeat first | exact .here | apply Suf.there⟩ rfl rfl rfl (fun K hK => ?_); simp only [List.getElem_toArray, List.getElem_cons_succ, List.getElem_cons_zero]; first | (guard_target =~ Oper.quiet _ (Oper.mk _ (.lookup _ _ _ false) _ _ _ _) _ _ _; refine q_segGet (m := ?_) rfl rfl rfl ?_ (hK _ ?_); rotate_left 1; (repeat first | exact .head _ | apply List.Mem.tail); clear hK K; simp only [Act.put, List.setIfInBounds_toArray, List.set_cons_succ, List.set_cons_zero, hs0]) | (guard_target =~ Oper.quiet _ (Oper.mk _ (.lookup _ _ _ true) _ _ _ _) _ _ _; refine q_segOk (m := ?_) rfl rfl rfl ?_ (hK _ ?_); rotate_left 1; (repeat first | exact .head _ | apply List.Mem.tail); clear hK K; simp only [Act.put, List.setIfInBounds_toArray, List.set_cons_succ, List.set_cons_zero, hs0]) | (guard_target =~ Oper.quiet _ (Oper.mk _ (.load _ _) _ _ _ _) _ _ _; (refine q_loadC (v := ?_) (row := ?_) rfl rfl ?_ ?_ ?_ (hK _ ?_); rotate_left 2; (repeat first | exact .head _ | apply List.Mem.tail); (exact rfl); (focus (intro _; simp [hs0]; done))); clear hK K; simp only [Act.put, List.setIfInBounds_toArray, List.set_cons_succ, List.set_cons_zero, hs0]) | (go_big_quiet_op; (try refine ⟨_, fun _ _ => rfl, ?_⟩); refine hK _ ?_; clear hK K)) | (refine treeC_call (v := ?_) ⟨_, H, by repeat first | exact .here | apply Suf.there⟩ rfl rfl (fun w3 H K hK => ?_) ?_; rotate_left 1; (focus (simp only [List.getElem_toArray, List.getElem_cons_succ, List.getElem_cons_zero]; first | (refine o_segLen (m := ?_) rfl H ?_ ?_; rotate_left 1; (repeat first | exact .head _ | apply List.Mem.tail); exact hK _ (Ext.refl _)) | (go_big_op; first | exact hK _ (Ext.refl _) | (go_at_call 70; (with_reducible refine (h3 _).mono ?_); rintro e w3 ⟨rfl, hb⟩; dsimp only; first | exact hK _ hb | exact hK _ (Ext.refl _))))); simp only [List.getElem_toArray, List.getElem_cons_succ, List.getElem_cons_zero, Act.put, List.setIfInBounds_toArray, List.set_cons_succ, List.set_cons_zero, hs0]) | (refine treeC_skip ⟨_, H, by repeat first | exact .here | apply Suf.there⟩ rfl rfl ?_; simp only [List.getElem_toArray, List.getElem_cons_succ, List.getElem_cons_zero, Act.put, List.setIfInBounds_toArray, List.set_cons_succ, List.set_cons_zero, hs0])) | (guard_target =~ wpTreeC _ _ _ (Tr.both _ _) _ _ _; refine treeC_both ?_ ?_) | (guard_target =~ wpTreeC _ _ _ (Tr.e _ _) _ _ _; first | (refine treeC_one H rfl rfl (fun w3 H2 K hK => ?_); clear H; (try clear w2); (revert w3; intro w2 H); simp only [List.getElem_toArray, List.getElem_cons_succ, List.getElem_cons_zero]; first | (((guard_target =~ Oper.wp _ (Oper.mk _ (.alloc _) _ _ _ _) _ _ _ _; refine o_alloc (z := ?_) rfl ?_ H rfl (fun w3 b2 he H2 => hK _ _ ⟨_, H2, ?_⟩ ?_); rotate_left 1; (focus (intro _; simp; with_reducible exact rfl))); (guard_target =~ Suf _ _; repeat first | exact .here | apply Suf.there); clear hK K he; clear H; (try clear w2); revert w3; intro w2 H; (try simp [Act.eval, List.getD, hs0] at H); (try simp [Value.cells, setL, hs0] at H); (clear tk0; rename Nat => b7)); simp only [Act.put, List.setIfInBounds_toArray, List.set_cons_succ, List.set_cons_zero, hs0]) | (go_big_op; (first | fail))) | (refine treeC_one_skip (fun w3 hx => ⟨_, H.ext hx, by repeat first | exact .here | apply Suf.there⟩) rfl rfl (fun w3 hx => ?_); replace H := H.ext hx; clear hx; (try clear w2); revert w3; intro w2 H; simp only [List.getElem_toArray, List.getElem_cons_succ, List.getElem_cons_zero, Act.put, List.setIfInBounds_toArray, List.set_cons_succ, List.set_cons_zero, hs0])) | (guard_target =~ wpTreeC _ _ _ Tr.nil _ _ _; refine treeC_nil H (fun w3 H2 => ?_); clear H; (try clear w2); revert w3; intro w2 H)))
      have hr := H.loadVarN (P := Try.prog) (ty := 69) (b := b2) (by exact m2) (by simp) (by simp)
      (try rw [Exit.noGoto_ret])
      exact bodyPost_ret (v := .tuple #[spV id 0, .int .i64 0]) (by simp [results, Try.results41, asAddr, hr]) rfl ⟨rfl, (H.sub (by repeat first | exact List.Sublist.refl _ | apply List.Sublist.cons_cons | apply List.Sublist.cons))⟩
end Go.Proofs.Ytlhmjhildlnokaa

/-
  Find at an index that is built from a right plan: what it answers.
-/
namespace Go.Proofs.Ytlhmjhildlnokaa
set_option linter.unusedVariables false
set_option linter.unusedSimpArgs false
open Go.RowKit Go.Sort Go.Shelf

/-- What Find answers. -/
def FindP (vs : List Vt) (es : List Eg) (os : List Int) (X : IxS) (q : Pt) (s1 s2 f : Int) : Prop :=
  (inB q = false ∧ s1 = 0 ∧ s2 = 0 ∧ f = 5) ∨
  (inB q = true ∧ EndS (segsOf vs es os).reverse q ∧ s1 = 0 ∧ s2 = 0 ∧ f = 7) ∨
  (inB q = true ∧ ¬ EndS (segsOf vs es os).reverse q ∧ f = 0 ∧
    ((∃ sg, (s1, sg) ∈ (segsOf vs es os).reverse ∧ (lnS sg).spans (Xr q) ∧ Yr q = (lnS sg).at (Xr q) ∧ s2 = 0) ∨
     (∃ (i : Nat) (p : Pc), X.P[i]? = some p ∧ p.g = false ∧ InT (segsOf vs es os).reverse p.t (Xr q) (Yr q) ∧ s1 = 0 ∧ s2 = p.t.bot)))
theorem xfind_any {B : Nat} {w0 w : World} {l : List Res} {bx ks ke cn cp dn dp : Nat} {vs : List Vt} {es : List Eg} {os : List Int} {X : IxS} (HR : RightP vs es) (I : BldI vs es os X) (h40 : os.length ≤ 40) (x y : Int) (H : Own B w0 w (xL bx ks ke cn cp dn dp X l)) :
    Calls Try.prog 41 #[.pointer (some ⟨bx, 0, none⟩), pV x y] w fun e w' => ∃ s1 s2 f, e = .returned (.tuple #[spV s1 s2, .int .i64 f]) ∧ FindP vs es os X ⟨x, y⟩ s1 s2 f ∧ Own B w0 w' (xL bx ks ke cn cp dn dp X l) := by
  cases hin : inB ⟨x, y⟩
  · refine (findR_any hin H).mono ?_
    rintro e w' ⟨rfl, H2⟩
    exact ⟨0, 0, 5, rfl, .inl ⟨hin, rfl, rfl, rfl⟩, H2⟩
  cases he : (getA X.E ⟨x, y⟩).getD false
  · have hE : ¬ EndS (segsOf vs es os).reverse ⟨x, y⟩ := fun g => by
      have := (I.puts.ends ⟨x, y⟩).2 g
      rw [he] at this; cases this
    have T := I.ti HR
    have hS : X.S = (segsOf vs es os).reverse := I.puts.S_
    obtain ⟨hP, hN, _⟩ := bld_sizes I h40
    rcases T.find (inP_b hin) hE with ⟨k, id, sg, h1, h2, h3, h4⟩ | ⟨k, i, p, h1, h2, h3, h4, h5⟩
    · refine (find_any (r := .on id) hin he (by rw [hS]; exact h4) trivial hN hP H).mono ?_
      rintro e w' ⟨rfl, H2⟩
      exact ⟨id, 0, 0, rfl, .inr (.inr ⟨hin, hE, rfl, .inl ⟨sg, h1, h2, h3, rfl⟩⟩), H2⟩
    · refine (find_any (r := .leaf p.n.toNat) hin he (by rw [hS]; exact h5) ⟨i, p, h3, h1⟩ hN hP H).mono ?_
      rintro e w' ⟨rfl, H2⟩
      refine ⟨0, p.t.bot, 0, ?_, .inr (.inr ⟨hin, hE, rfl, .inr ⟨i, p, h1, h2, h4, rfl, rfl⟩⟩), H2⟩
      simp [spotOf, idN, h3, lfN, h1]
  · refine (findE_any hin he (l := nG dn X.N.length cn X.N :: pG dp X.P.length cp X.P :: mSeg ks X.S :: l) (H.perm (.cons _ ?_))).mono ?_
    · exact (List.perm_middle (l₁ := [nG dn X.N.length cn X.N, pG dp X.P.length cp X.P, mSeg ks X.S]) (a := mEnd ke X.E) (l₂ := l)).symm
    rintro e w' ⟨rfl, H2⟩
    exact ⟨0, 0, 7, rfl, .inr (.inl ⟨hin, (I.puts.ends ⟨x, y⟩).1 he, rfl, rfl, rfl⟩), H2.perm (.cons _ (List.perm_middle (l₁ := [nG dn X.N.length cn X.N, pG dp X.P.length cp X.P, mSeg ks X.S]) (a := mEnd ke X.E) (l₂ := l)))⟩
/-- What is found does not hang on the order. -/
theorem FindP.same {vs : List Vt} {es : List Eg} {os os' : List Int} {X Y : IxS} {q : Pt} {s1 s2 f t1 t2 g : Int} (HR : RightP vs es) (I : BldI vs es os X) (J : BldI vs es os' Y) (hp : (segsOf vs es os).reverse.Perm (segsOf vs es os').reverse) (h : FindP vs es os X q s1 s2 f) (h' : FindP vs es os' Y q t1 t2 g) : s1 = t1 ∧ s2 = t2 ∧ f = g := by
  have hE : EndS (segsOf vs es os).reverse q ↔ EndS (segsOf vs es os').reverse q := endS_perm hp
  rcases h with ⟨a1, rfl, rfl, rfl⟩ | ⟨a1, a2, rfl, rfl, rfl⟩ | ⟨a1, a2, rfl, h⟩
  · rcases h' with ⟨b1, rfl, rfl, rfl⟩ | ⟨b1, _⟩ | ⟨b1, _⟩
    · exact ⟨rfl, rfl, rfl⟩
    · rw [a1] at b1; cases b1
    · rw [a1] at b1; cases b1
  · rcases h' with ⟨b1, _⟩ | ⟨b1, b2, rfl, rfl, rfl⟩ | ⟨b1, b2, _⟩
    · rw [a1] at b1; cases b1
    · exact ⟨rfl, rfl, rfl⟩
    · exact absurd (hE.1 a2) b2
  · rcases h' with ⟨b1, _⟩ | ⟨b1, b2, _⟩ | ⟨b1, b2, rfl, h'⟩
    · rw [a1] at b1; cases b1
    · exact absurd (hE.2 b2) a2
    · have S1 := TI.same (I.ti HR) (J.ti HR) hp (inP_b a1)
      have S2 := TI.same (J.ti HR) (I.ti HR) hp.symm (inP_b a1)
      rcases h with ⟨sg, c1, c2, c3, rfl⟩ | ⟨i, p, c1, c2, c3, rfl, rfl⟩
      · rcases h' with ⟨sg', d1, d2, d3, rfl⟩ | ⟨i, p, d1, d2, d3, rfl, rfl⟩
        · exact ⟨S1.1 c1 d1 c2 d2 c3 d3, rfl, rfl⟩
        · exact (S1.2.1 c1 c2 c3 d1 d2 d3).elim
      · rcases h' with ⟨sg', d1, d2, d3, rfl⟩ | ⟨i', p', d1, d2, d3, rfl, rfl⟩
        · exact (S2.2.1 d1 d2 d3 c1 c2 c3).elim
        · exact ⟨rfl, by rw [S1.2.2 c1 c2 c3 d1 d2 d3], rfl⟩
end Go.Proofs.Ytlhmjhildlnokaa

/-
  Lines, trapezes, spots held against each other, field by field.
-/
namespace Go.Proofs.Ytlhmjhildlnokaa
set_option linter.unusedVariables false
set_option linter.unusedSimpArgs false
open Go.RowKit
abbrev pU (p : Pt) : Value := .agg #[.int .i64 p.x, .int .i64 p.y]
theorem bool_agg (w : World) : (isAgg 4).run Try.prog w = .ok false w := by kernel_rfl
theorem eq_bool_in (k : Nat) (a b : Bool) (w : World) : (Op.equalIn (k + 1) 4 (.bool a) (.bool b)).run Try.prog w = .ok (decide (a = b)) w := by
  have hu : Try.prog.underlying 4 = some .bool := by kernel_rfl
  unfold Op.equalIn
  simp [hu]
  try (cases a <;> cases b <;> rfl)
theorem pt_dec (p q : Pt) : (decide (p.x = q.x) && decide (p.y = q.y)) = decide (p = q) := by
  obtain ⟨a, b⟩ := p
  obtain ⟨c, d⟩ := q
  rw [Bool.eq_iff_iff]
  simp
theorem pt_size (w : World) : (sizeOf 47).run Try.prog w = .ok 2 w := by kernel_rfl
theorem pt_agg (w : World) : (isAgg 47).run Try.prog w = .ok true w := by kernel_rfl
theorem eqSg_in (s t : Sg) (w : World) : (Op.equalIn 10000 111 (sgV s) (sgV t)).run Try.prog w = .ok (decide (s = t)) w := by
  have h := eqS_in (P := Try.prog) (d := 9999) (T := 111) (xs := #[.int .i64 s.a.x, .int .i64 s.a.y, .int .i64 s.b.x, .int .i64 s.b.y]) (ys := #[.int .i64 t.a.x, .int .i64 t.a.y, .int .i64 t.b.x, .int .i64 t.b.y])
    [⟨47, 0, pU s.a, pU t.a, decide (s.a.x = t.a.x) && decide (s.a.y = t.a.y)⟩, ⟨47, 2, pU s.b, pU t.b, decide (s.b.x = t.b.x) && decide (s.b.y = t.b.y)⟩] (by kernel_rfl) (by kernel_rfl) (by kernel_rfl) (fun f hf => by
      simp only [List.mem_cons, List.not_mem_nil, or_false] at hf
      rcases hf with rfl | rfl
      · exact ⟨part_row pt_agg pt_size rfl, part_row pt_agg pt_size rfl, eqP_in 9997 _ _ _ _⟩
      · exact ⟨part_row pt_agg pt_size rfl, part_row pt_agg pt_size rfl, eqP_in 9997 _ _ _ _⟩) w
  rw [h]
  simp only [List.all_cons, List.all_nil, Bool.and_true, pt_dec]
  obtain ⟨a, b⟩ := s
  obtain ⟨c, d⟩ := t
  have : (decide (a = c) && decide (b = d)) = decide ((⟨a, b⟩ : Sg) = ⟨c, d⟩) := by rw [Bool.eq_iff_iff]; simp
  rw [this]
theorem eqSg_eql (s t : Sg) (w : World) : (binOp .eql 111 (sgV s) (sgV t)).run Try.prog w = .ok (.bool (decide (s = t))) w := eqS_eql (P := Try.prog) (eqSg_in s t) w
theorem eqSg_neq (s t : Sg) (w : World) : (binOp .neq 111 (sgV s) (sgV t)).run Try.prog w = .ok (.bool (!decide (s = t))) w := eqS_neq (P := Try.prog) (eqSg_in s t) w
theorem eqSg_guard (op : BinOp) (x y : Operand) (a0 : Int) (a1 : Int) (a2 : Int) (a3 : Int) (b0 : Int) (b1 : Int) (b2 : Int) (b3 : Int) (w : World) : (eqGuard op 111 x y (.agg #[.int .i64 a0, .int .i64 a1, .int .i64 a2, .int .i64 a3]) (.agg #[.int .i64 b0, .int .i64 b1, .int .i64 b2, .int .i64 b3])).run Try.prog w = .ok () w := by
  have h : Try.prog.eqGuardType Try.prog.depth 111 = false := by kernel_rfl
  cases op <;> simp [eqGuard, h]
theorem eqTz_in (s t : Tz) (w : World) : (Op.equalIn 10000 73 (tzV s) (tzV t)).run Try.prog w = .ok (decide (s = t)) w := by
  have h := eqS_in (P := Try.prog) (d := 9999) (T := 73) (xs := #[.int .i64 s.top, .int .i64 s.bot, .bool s.hl, .bool s.hr, .int .i64 s.l.x, .int .i64 s.l.y, .int .i64 s.r.x, .int .i64 s.r.y]) (ys := #[.int .i64 t.top, .int .i64 t.bot, .bool t.hl, .bool t.hr, .int .i64 t.l.x, .int .i64 t.l.y, .int .i64 t.r.x, .int .i64 t.r.y])
    [⟨3, 0, .int .i64 s.top, .int .i64 t.top, decide (s.top = t.top)⟩, ⟨3, 1, .int .i64 s.bot, .int .i64 t.bot, decide (s.bot = t.bot)⟩, ⟨4, 2, .bool s.hl, .bool t.hl, decide (s.hl = t.hl)⟩, ⟨4, 3, .bool s.hr, .bool t.hr, decide (s.hr = t.hr)⟩,
     ⟨47, 4, pU s.l, pU t.l, decide (s.l.x = t.l.x) && decide (s.l.y = t.l.y)⟩, ⟨47, 6, pU s.r, pU t.r, decide (s.r.x = t.r.x) && decide (s.r.y = t.r.y)⟩] (by kernel_rfl) (by kernel_rfl) (by kernel_rfl) (fun f hf => by
      simp only [List.mem_cons, List.not_mem_nil, or_false] at hf
      rcases hf with rfl | rfl | rfl | rfl | rfl | rfl
      · exact ⟨part_cell int_agg rfl, part_cell int_agg rfl, eq_int_in 9998 _ _⟩
      · exact ⟨part_cell int_agg rfl, part_cell int_agg rfl, eq_int_in 9998 _ _⟩
      · exact ⟨part_cell bool_agg rfl, part_cell bool_agg rfl, eq_bool_in 9998 _ _⟩
      · exact ⟨part_cell bool_agg rfl, part_cell bool_agg rfl, eq_bool_in 9998 _ _⟩
      · exact ⟨part_row pt_agg pt_size rfl, part_row pt_agg pt_size rfl, eqP_in 9997 _ _ _ _⟩
      · exact ⟨part_row pt_agg pt_size rfl, part_row pt_agg pt_size rfl, eqP_in 9997 _ _ _ _⟩) w
  rw [h]
  simp only [List.all_cons, List.all_nil, Bool.and_true, pt_dec]
  obtain ⟨a, b, c, d, e, f⟩ := s
  obtain ⟨a', b', c', d', e', f'⟩ := t
  have : (decide (a = a') && (decide (b = b') && (decide (c = c') && (decide (d = d') && (decide (e = e') && decide (f = f')))))) = decide ((⟨a, b, c, d, e, f⟩ : Tz) = ⟨a', b', c', d', e', f'⟩) := by rw [Bool.eq_iff_iff]; simp
  rw [← this]
theorem eqTz_neq (s t : Tz) (w : World) : (binOp .neq 73 (tzV s) (tzV t)).run Try.prog w = .ok (.bool (!decide (s = t))) w := eqS_neq (P := Try.prog) (eqTz_in s t) w
theorem eqTz_guard (op : BinOp) (x y : Operand) (a0 : Int) (a1 : Int) (a2 : Bool) (a3 : Bool) (a4 : Int) (a5 : Int) (a6 : Int) (a7 : Int) (b0 : Int) (b1 : Int) (b2 : Bool) (b3 : Bool) (b4 : Int) (b5 : Int) (b6 : Int) (b7 : Int) (w : World) : (eqGuard op 73 x y (.agg #[.int .i64 a0, .int .i64 a1, .bool a2, .bool a3, .int .i64 a4, .int .i64 a5, .int .i64 a6, .int .i64 a7]) (.agg #[.int .i64 b0, .int .i64 b1, .bool b2, .bool b3, .int .i64 b4, .int .i64 b5, .int .i64 b6, .int .i64 b7])).run Try.prog w = .ok () w := by
  have h : Try.prog.eqGuardType Try.prog.depth 73 = false := by kernel_rfl
  cases op <;> simp [eqGuard, h]
theorem eqSp_in (a b c d : Int) (w : World) : (Op.equalIn 10000 69 (.agg #[.int .i64 a, .int .i64 b]) (.agg #[.int .i64 c, .int .i64 d])).run Try.prog w = .ok (decide (a = c) && decide (b = d)) w := by
  have h := eqS_in (P := Try.prog) (d := 9999) (T := 69) (xs := #[.int .i64 a, .int .i64 b]) (ys := #[.int .i64 c, .int .i64 d])
    [⟨3, 0, .int .i64 a, .int .i64 c, decide (a = c)⟩, ⟨3, 1, .int .i64 b, .int .i64 d, decide (b = d)⟩] (by kernel_rfl) (by kernel_rfl) (by kernel_rfl) (fun f hf => by
      simp only [List.mem_cons, List.not_mem_nil, or_false] at hf
      rcases hf with rfl | rfl
      · exact ⟨part_cell int_agg rfl, part_cell int_agg rfl, eq_int_in 9998 _ _⟩
      · exact ⟨part_cell int_agg rfl, part_cell int_agg rfl, eq_int_in 9998 _ _⟩) w
  rw [h]
  simp
theorem eqSp_eql (a b c d : Int) (w : World) : (binOp .eql 69 (.agg #[.int .i64 a, .int .i64 b]) (.agg #[.int .i64 c, .int .i64 d])).run Try.prog w = .ok (.bool (decide (a = c) && decide (b = d))) w := eqS_eql (P := Try.prog) (eqSp_in a b c d) w
theorem eqSp_guard (op : BinOp) (x y : Operand) (a0 : Int) (a1 : Int) (b0 : Int) (b1 : Int) (w : World) : (eqGuard op 69 x y (.agg #[.int .i64 a0, .int .i64 a1]) (.agg #[.int .i64 b0, .int .i64 b1])).run Try.prog w = .ok () w := by
  have h : Try.prog.eqGuardType Try.prog.depth 69 = false := by kernel_rfl
  cases op <;> simp [eqGuard, h]
end Go.Proofs.Ytlhmjhildlnokaa
