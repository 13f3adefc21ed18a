/-
  A region that draws its order, in which calls that make memory are taken first: a call that answers the same value in every world that keeps what is known, and leaves all that was there as it was, may be taken ahead of all that it doesn't wait for. Nothing of the program stands here.
-/
import Derived.WalkKit
import Derived.WalkSpells
import Derived.WalkLawsBesides
import Derived.ProofKit
import Derived.OpenShut
import Derived.ShutString
import Derived.Lib.Hide
import Derived.Deep.Draws
import Derived.Handy
import Derived.SliceStrings
import Derived.Deep.QuietTactic
import Derived.BigQuiet
import Derived.StillTail
import Derived.Laws.AppendOwn
import Derived.Deep.MidRow
namespace Go.Proofs.YtlhmjhildlnokaaGreat
set_option linter.unusedVariables false
open Go.RowKit Go.WideShapes Go.ChangeShapes
structure Below (B : Nat) (w w' : World) : Prop where
 kit : Go.RowKit.Below B w w'
 drawn : w.drawn ≤ w'.drawn
theorem Below.os {B : Nat} {w w' : World} (h : Below B w w') : w'.os = w.os := h.kit.os
theorem Below.tape {B : Nat} {w w' : World} (h : Below B w w') : w'.tape = w.tape := h.kit.tape
theorem Below.output {B : Nat} {w w' : World} (h : Below B w w') : w'.output = w.output := h.kit.output
theorem Below.size {B : Nat} {w w' : World} (h : Below B w w') : w.heap.size ≤ w'.heap.size := h.kit.size
theorem Below.block {B : Nat} {w w' : World} (h : Below B w w') : ∀ k, k < B → w'.heap[k]? = w.heap[k]? := h.kit.block
theorem Below.mk6 {B : Nat} {w w' : World} (h1 : w'.os = w.os) (h2 : w'.tape = w.tape) (h3 : w'.output = w.output) (h4 : w.heap.size ≤ w'.heap.size) (h5 : ∀ k, k < B → w'.heap[k]? = w.heap[k]?) (h6 : w.drawn ≤ w'.drawn) : Below B w w' := ⟨⟨h1, h2, h3, h4, h5⟩, h6⟩
theorem Below.refl (B : Nat) (w : World) : Below B w w := ⟨Go.RowKit.Below.refl _ _, Nat.le_refl _⟩
theorem Below.trans {B : Nat} {a b c : World} (h : Below B a b) (k : Below B b c) : Below B a c := ⟨h.kit.trans k.kit, Nat.le_trans h.drawn k.drawn⟩
theorem Below.mono {B B' : Nat} {w w' : World} (h : Below B w w') (hB : B' ≤ B) : Below B' w w' := ⟨h.kit.mono hB, h.drawn⟩
theorem Below.drew {B : Nat} {a w : World} (h : Below B a w) : Below B a w.drew := ⟨h.kit.drew, Nat.le_trans h.drawn (Nat.le_succ _)⟩
theorem Below.alloc {B : Nat} {a w : World} (h : Below B a w) (hB : B ≤ w.heap.size) (o : Obj) : Below B a (w.alloc o) := ⟨h.kit.alloc hB o, h.drawn⟩
theorem Below.cell {B : Nat} {w w' : World} (h : Below B w w') {p : Addr} (hp : p.block < B) : w'.cell? p = w.cell? p := h.kit.cell hp
theorem Below.frozen {B : Nat} {w w' : World} (h : Below B w w') {p : Addr} (hp : p.block < B) : w'.frozen? p = w.frozen? p := h.kit.frozen hp
theorem Below.frame {W w' : World} (h : Below W.heap.size W w') (may : MemPlace → Prop) : W.keptBut w' may := h.kit.frame may
theorem Below.same {W w' : World} (h : Below W.heap.size W w') {p : MemPlace} (hp : p.block < W.heap.size) : W.sameAt w' p := h.kit.same hp
section
variable {H : Type} {enc : TypeId × Value → H} {P : Program}
theorem below_trod {t : TypeId} (hl : laidOutB P = true) (hr : P.readableRec t = true) (hrow : t < P.types.size) {W W' : World} {v : Value} {d : DataW H} {ps : List MemPlace} (sp : Nat → Bool)
  (h : DataW.Trod enc P W 0 (fun _ => true) true t v d ps) (hb : Below W.heap.size W W') (hlt : ∀ x ∈ ps, x.block < W.heap.size) (hsp : ∀ x ∈ ps, sp x.block = true) :
  DataW.Trod enc P W' 0 sp true t v d ps :=
 WideElems.Trod_stays hl hr hrow h (fun x hx => hb.same (hlt x hx)) hsp
end
section
variable {H : Type} {enc : TypeId × Value → H} {P : Program}
theorem trodAll_keep (hl : laidOutB P = true) {W W' : World} (hb : Below W.heap.size W W') (sp : Nat → Bool) : ∀ {ts : List TypeId} {vs : List Value} {ds : List (DataW H)} {ps : List MemPlace},
  (∀ t ∈ ts, P.readableRec t = true ∧ t < P.types.size) → DataW.TrodAll enc P W 0 (fun _ => true) true ts vs ds ps → (∀ x ∈ ps, x.block < W.heap.size) → (∀ x ∈ ps, sp x.block = true) → DataW.TrodAll enc P W' 0 sp true ts vs ds ps := by
 intro ts
 induction ts with
 | nil =>
  intro vs ds ps _ h _ _
  obtain ⟨rfl, rfl, rfl⟩ := trodAll_nil h
  rfl
 | cons t ts ih =>
  intro vs ds ps hts h hlt hsp
  obtain ⟨v, vs', d, ds', p, q, rfl, rfl, rfl, h0, r0⟩ := trodAll_cons h
  have h1 := hts t (by simp)
  exact ⟨p, q, below_trod hl h1.1 h1.2 sp h0 hb (fun x hx => hlt x (by simp [hx])) (fun x hx => hsp x (by simp [hx])),
   ih (fun t ht => hts t (by simp [ht])) r0 (fun x hx => hlt x (by simp [hx])) (fun x hx => hsp x (by simp [hx])), rfl⟩
theorem trodAll_length {W : World} {b : Nat} {sp : Nat → Bool} {hd : Bool} : ∀ {ts : List TypeId} {vs : List Value} {ds : List (DataW H)} {ps : List MemPlace}, DataW.TrodAll enc P W b sp hd ts vs ds ps → ds.length = ts.length := by
 intro ts
 induction ts with
 | nil =>
  intro vs ds ps h
  obtain ⟨rfl, rfl, rfl⟩ := trodAll_nil h
  rfl
 | cons t ts ih =>
  intro vs ds ps h
  obtain ⟨v, vs', d, ds', p, q, rfl, rfl, rfl, h0, r0⟩ := trodAll_cons h
  simp [ih r0]
theorem law_calls {f : Func} {k : FuncId} {s : ChangeSpec} {T : TypeId} {W : World} {args : Array Value} {ds gs : List (DataW H)} {before : List MemPlace}
  (hl : laidOutB P = true) (hts : (f.params.toList.all fun t => P.readableRec t && decide (t < P.types.size)) = true) (hv : s.vars = []) (hrt : f.resultTypes = #[T]) (hT : P.underlying T = some .bool)
  (hs : ∀ ds : List (DataW H), ds.length = f.params.size → s.fn H ds = { results := [.lit (.bool true)], args := ds })
  (hW : DataW.Whole enc P f.params.toList s.vars false W args.toList ds gs before)
  (h : Calls P k args W fun e W' => e = .returned (.bool true) ∧ Below W.heap.size W W') :
  Calls P k args W fun e W' => ∃ v, e = .returned v ∧ s.post enc P f false true false false W args v W' := by
 refine h.mono fun e W' ⟨he, hb⟩ => ⟨_, he, ?_⟩
 have hW' := hW
 have hlt : ∀ p ∈ before, p.block < W.heap.size := fun p hp => hW.lt p hp
 obtain ⟨p, q, hA, hV, hpq, hfz, hnd⟩ := hW
 rw [hv] at hV
 obtain ⟨rfl, rfl⟩ := trodVars_none hV
 obtain rfl : before = p := by simpa using hpq
 have hlen : ds.length = f.params.size := by rw [trodAll_length hA]; simp
 have hfn : s.fn H (ds ++ []) = { results := [.lit (.bool true)], args := ds } := by rw [List.append_nil]; exact hs ds hlen
 have hts' : ∀ t ∈ f.params.toList, P.readableRec t = true ∧ t < P.types.size := by
  intro t ht
  have := List.all_eq_true.1 hts t ht
  simpa using this
 refine ⟨ds, [], before, [], before, [], hW', ?_, ?_, ?_, ?_, fun h => by cases h⟩
 ·rw [hfn, hrt]
  exact ⟨[], [], shut_bool hT true, rfl, rfl⟩
 ·rw [hfn]
  exact trodAll_keep hl hb _ hts' hA hlt (fun x hx => by simpa using hlt x hx)
 ·rw [hfn, hv]
  rfl
 ·refine World.keptBut_mono (fun p hp => ?_) (hb.frame (· ∈ before))
  exact ⟨hp, .inr (.inl hp)⟩
end
def Row (w : World) (A : Option Addr) (xs : List Value) : Prop := 0 < xs.length → ∃ b off, A = some ⟨b, off, none⟩ ∧ ∀ j v, xs[j]? = some v → w.cell? ⟨b, off + j, none⟩ = some v
theorem Row.nil_ (w : World) (A : Option Addr) : Row w A [] := fun h => absurd h (by simp)
theorem Row.below {w w' : World} {A : Option Addr} {xs : List Value} (h : Row w A xs) (hb : Below w.heap.size w w') : Row w' A xs := by
 intro hp
 obtain ⟨b, off, rfl, hc⟩ := h hp
 refine ⟨b, off, rfl, fun j v hv => ?_⟩
 have h1 := hc j v hv
 have h2 := World.block_lt_of_cell? w _ h1
 rw [hb.cell h2]
 exact h1
theorem Row.new (w : World) (C : Array Value) (T : TypeId) (xs : List Value) (h : xs = C.toList) : Row (w.alloc (.cells C T)) (some ⟨w.heap.size, 0, none⟩) xs := by
 intro _
 refine ⟨_, _, rfl, fun j v hv => ?_⟩
 rw [Nat.zero_add, World.cell?_alloc_mark, ← hv, h]
 simp
theorem addr_add (b off j : Nat) : (⟨b, off, none⟩ : Addr).add j = ⟨b, off + j, none⟩ := by
 unfold Addr.add
 split <;> simp_all
theorem Row.of_cells {w : World} {a : Addr} {xs : List Value} (h : ∀ j v, xs[j]? = some v → w.cell? (a.add j) = some v) : Row w (some a) xs := by
 intro hp
 obtain ⟨b, off, spot⟩ := a
 have h0 := h 0 _ (List.getElem?_eq_getElem hp)
 have hspot : spot = none := by simpa [Addr.add] using World.cell?_spot h0
 subst hspot
 exact ⟨b, off, rfl, fun j v hv => by rw [← addr_add]; exact h j v hv⟩
theorem below_cell {w w' : World} (hb : Below w.heap.size w w') {p : Addr} {v : Value} (h : w.cell? p = some v) : w'.cell? p = some v := by
 rw [hb.cell (World.block_lt_of_cell? w p h)]; exact h
theorem below_frozen {w w' : World} (hb : Below w.heap.size w w') {p : Addr} {v : Value} (h : w.cell? p = some v) (hf : w.frozen? p = false) : w'.frozen? p = false := by
 rw [hb.frozen (World.block_lt_of_cell? w p h)]; exact hf
theorem below_drewN {B : Nat} {a w : World} (h : Below B a w) (n : Nat) : Below B a (w.drewN n) := .mk6 h.os h.tape h.output h.size h.block (Nat.le_trans h.drawn (Nat.le_add_right _ _))
theorem below_alloc1 (w : World) (o : Obj) : Below w.heap.size w (w.alloc o) := (Below.refl _ _).alloc (Nat.le_refl _) o
end Go.Proofs.YtlhmjhildlnokaaGreat
namespace Go.Proofs.YtlhmjhildlnokaaGreat
set_option linter.unusedVariables false
open Go.RowKit
variable {P : Program} {ops : Array Oper} {C : World → Prop}
abbrev Ext (w w' : World) : Prop := Below w.heap.size w w'
theorem Ext.drew (w : World) : Ext w w.drew := (Below.refl _ _).drew
inductive Res where
 | cells (b : Nat) (row : List Value)
 | grow (e size : Nat) (v : Value) (n : Nat) (xs : List Value)
 | rd (A : Option Addr) (b off : Nat) (xs : List Value)
 | any (ro : Bool) (foot : Nat → Prop) (P : World → Prop)
def Res.holds : Res → World → Prop
 | .cells b row, w => ∃ T, w.heap[b]? = some (.cells row.toArray T (0, 0))
 | .grow e size v n xs, w => w.ownsRow 0 e size v n xs
 | .rd A b off xs, w => (0 < xs.length → A = some ⟨b, off, none⟩) ∧ ∀ j v, xs[j]? = some v → w.cell? ⟨b, off + j, none⟩ = some v
 | .any _ foot P, w => ∀ w', (∀ k, foot k → w'.heap[k]? = w.heap[k]?) → P w'
def Res.foot : Res → Nat → Prop
 | .cells b _, k => k = b
 | .grow _ _ v _ _, k => v.ownBlock = some k
 | .rd _ b _ xs, k => k = b ∧ 0 < xs.length
 | .any _ foot _, k => foot k
def Res.ro : Res → Bool
 | .rd _ _ _ _ => true
 | .any ro _ _ => ro
 | _ => false
theorem Res.holds_stable {r : Res} {w w' : World} (h : r.holds w) (hf : ∀ k, r.foot k → w'.heap[k]? = w.heap[k]?) : r.holds w' := by
 cases r with
 | cells b row => obtain ⟨T, hT⟩ := h; exact ⟨T, by rw [hf b rfl]; exact hT⟩
 | grow e size v n xs =>
  refine ⟨h.1, ?_⟩
  rcases h.2 with hn | ⟨g, cap, cur, rfl, hb, hgg, rest⟩
  ·exact .inl hn
  ·exact .inr ⟨g, cap, cur, rfl, hb, by rw [hf g rfl]; exact hgg, rest⟩
 | rd A b off xs =>
  refine ⟨h.1, fun j v hv => ?_⟩
  have h1 := h.2 j v hv
  have hp : 0 < xs.length := Nat.lt_of_le_of_lt (Nat.zero_le _) (List.getElem?_eq_some_iff.1 hv).1
  rw [World.cell?_of_block (w := w) (hf b ⟨rfl, hp⟩)]
  exact h1
 | any ro foot P =>
  intro w'' hw''
  exact h w'' fun k hk => (hw'' k hk).trans (hf k hk)
structure Own (B : Nat) (w0 w : World) (l : List Res) : Prop where
 below : Below B w0 w
 base : B ≤ w.heap.size
 holds : ∀ r ∈ l, r.holds w
 lt : ∀ r ∈ l, ∀ k, r.foot k → k < w.heap.size ∧ (r.ro = false → B ≤ k)
 apart : l.Pairwise fun r r' => (r.ro = true ∧ r'.ro = true) ∨ ∀ k, r.foot k → ¬ r'.foot k
theorem Own.start (w : World) : Own w.heap.size w w [] := ⟨Below.refl _ _, Nat.le_refl _, by simp, by simp, .nil⟩
variable {B : Nat} {w0 w w' : World} {l l' : List Res}
theorem Own.ext (H : Own B w0 w l) (h : Below w.heap.size w w') : Own B w0 w' l := by
 refine ⟨H.below.trans (h.mono H.base), Nat.le_trans H.base h.size, fun r hr => ?_, fun r hr k hk => ?_, H.apart⟩
 ·exact Res.holds_stable (H.holds r hr) fun k hk => h.block k (H.lt r hr k hk).1
 ·exact ⟨Nat.lt_of_lt_of_le (H.lt r hr k hk).1 h.size, (H.lt r hr k hk).2⟩
theorem Own.drew (H : Own B w0 w l) : Own B w0 w.drew l := H.ext (Ext.drew w)
theorem Own.drewN (H : Own B w0 w l) (n : Nat) : Own B w0 (w.drewN n) l := H.ext (below_drewN (Below.refl _ _) n)
theorem Own.add (H : Own B w0 w l) (r : Res) (h : r.holds w) (hlt : ∀ k, r.foot k → k < w.heap.size ∧ (r.ro = false → B ≤ k)) (hap : ∀ r' ∈ l, (r.ro = true ∧ r'.ro = true) ∨ ∀ k, r.foot k → ¬ r'.foot k) : Own B w0 w (r :: l) :=
 ⟨H.below, H.base, List.forall_mem_cons.2 ⟨h, H.holds⟩, List.forall_mem_cons.2 ⟨hlt, H.lt⟩, .cons hap H.apart⟩
theorem Own.tail {r : Res} (H : Own B w0 w (r :: l)) : Own B w0 w l :=
 ⟨H.below, H.base, fun r' hr' => H.holds r' (List.mem_cons_of_mem _ hr'), fun r' hr' => H.lt r' (List.mem_cons_of_mem _ hr'), (List.pairwise_cons.1 H.apart).2⟩
theorem Own.sub (H : Own B w0 w l) (h : l'.Sublist l) : Own B w0 w l' :=
 ⟨H.below, H.base, fun r hr => H.holds r (h.subset hr), fun r hr => H.lt r (h.subset hr), H.apart.sublist h⟩
theorem Own.perm (H : Own B w0 w l) (h : l'.Perm l) : Own B w0 w l' := by
 refine ⟨H.below, H.base, fun r hr => H.holds r (h.subset hr), fun r hr => H.lt r (h.subset hr), (h.pairwise_iff (fun hxy => ?_)).2 H.apart⟩
 rcases hxy with h | h
 ·exact .inl ⟨h.2, h.1⟩
 ·exact .inr fun k hk hk' => h k hk' hk
theorem Own.alloc (H : Own B w0 w l) (C : Array Value) (T : TypeId) : Own B w0 (w.alloc (.cells C T)) (.cells w.heap.size C.toList :: l) := by
 refine (H.ext (below_alloc1 w _)).add _ ⟨T, heap_alloc_new w _⟩ (fun k hk => ?_) (fun r' hr' => .inr fun k hk hk' => ?_)
 ·obtain rfl : k = w.heap.size := hk
  exact ⟨by simp, fun _ => H.base⟩
 ·obtain rfl : k = w.heap.size := hk
  exact absurd (H.lt r' hr' _ hk').1 (Nat.lt_irrefl _)
inductive Rep (r r' : Res) : List Res → List Res → Prop
 | here {m : List Res} : Rep r r' (r :: m) (r' :: m)
 | there {x : Res} {m m' : List Res} : Rep r r' m m' → Rep r r' (x :: m) (x :: m')
theorem Rep.mem {r r' : Res} (h : Rep r r' l l') : r ∈ l := by induction h with | here => simp | there _ ih => exact List.mem_cons_of_mem _ ih
theorem Rep.mem' {r r' x : Res} (h : Rep r r' l l') (hx : x ∈ l') : x = r' ∨ x ∈ l := by
 induction h with
 | here => exact (List.mem_cons.1 hx).imp id (List.mem_cons_of_mem _)
 | there _ ih =>
  rcases List.mem_cons.1 hx with rfl | h
  ·exact .inr (by simp)
  ·exact (ih h).imp id (List.mem_cons_of_mem _)
theorem Own.change {r r' : Res} (H : Own B w0 w l) (hrep : Rep r r' l l') (hro : r.ro = false) (hro' : r'.ro = false) (hw : Below B w w') (hb : ∀ k, k < w.heap.size → ¬ r.foot k → w'.heap[k]? = w.heap[k]?)
  (h' : r'.holds w') (hlt : ∀ k, r'.foot k → k < w'.heap.size) (hf : ∀ k, r'.foot k → r.foot k ∨ w.heap.size ≤ k) : Own B w0 w' l' := by
 obtain ⟨h1, h2, h3, h4, h5⟩ := H
 refine ⟨h1.trans hw, Nat.le_trans h2 hw.size, ?_, ?_, ?_⟩
 ·induction hrep with
  | here =>
   intro x hx
   rcases List.mem_cons.1 hx with rfl | hx
   ·exact h'
   ·refine Res.holds_stable (h3 x (List.mem_cons_of_mem _ hx)) fun k hk => ?_
    rcases (List.pairwise_cons.1 h5).1 x hx with h | h
    ·rw [hro] at h; cases h.1
    ·exact hb k (h4 x (List.mem_cons_of_mem _ hx) k hk).1 fun h0 => h k h0 hk
  | there hrep ih =>
   rename_i y m m'
   intro x hx
   rcases List.mem_cons.1 hx with rfl | hx
   ·refine Res.holds_stable (h3 x (by simp)) fun k hk => ?_
    rcases (List.pairwise_cons.1 h5).1 r hrep.mem with h | h
    ·rw [hro] at h; cases h.2
    ·exact hb k (h4 x (by simp) k hk).1 (h k hk)
   ·exact ih (fun z hz => h3 z (List.mem_cons_of_mem _ hz)) (fun z hz => h4 z (List.mem_cons_of_mem _ hz)) (List.pairwise_cons.1 h5).2 x hx
 ·intro x hx k hk
  rcases hrep.mem' hx with rfl | hx
  ·refine ⟨hlt k hk, fun _ => ?_⟩
   rcases hf k hk with h | h
   ·exact (h4 r hrep.mem k h).2 hro
   ·exact Nat.le_trans h2 h
  ·exact ⟨Nat.lt_of_lt_of_le (h4 x hx k hk).1 hw.size, (h4 x hx k hk).2⟩
 ·have key : ∀ x ∈ l, (x.ro = true ∧ r.ro = true ∨ ∀ k, x.foot k → ¬ r.foot k) → (x.ro = true ∧ r'.ro = true ∨ ∀ k, x.foot k → ¬ r'.foot k) := by
   intro x hx h
   rcases h with h | h
   ·rw [hro] at h; cases h.2
   ·refine .inr fun k hk hk' => ?_
    rcases hf k hk' with h' | h'
    ·exact h k hk h'
    ·exact absurd (h4 x hx k hk).1 (Nat.not_lt.2 h')
  clear h3
  induction hrep with
  | here =>
   refine .cons (fun x hx => ?_) (List.pairwise_cons.1 h5).2
   have h := (List.pairwise_cons.1 h5).1 x hx
   rcases h with h | h
   ·rw [hro] at h; cases h.1
   ·rcases key x (List.mem_cons_of_mem _ hx) (.inr fun k hk hk' => h k hk' hk) with h | h
    ·rw [hro'] at h; cases h.2
    ·exact .inr fun k hk hk' => h k hk' hk
  | there hrep ih =>
   rename_i y m m'
   refine .cons (fun x hx => ?_) (ih (fun z hz => h4 z (List.mem_cons_of_mem _ hz)) (List.pairwise_cons.1 h5).2 (fun z hz => key z (List.mem_cons_of_mem _ hz)))
   rcases hrep.mem' hx with rfl | hx
   ·exact key y (by simp) ((List.pairwise_cons.1 h5).1 r hrep.mem)
   ·exact (List.pairwise_cons.1 h5).1 x hx
theorem Own.front1 {x0 x1 : Res} (H : Own B w0 w (x0 :: x1 :: l)) : Own B w0 w (x1 :: x0 :: l) := H.perm (by simpa using (List.perm_middle (l₁ := [x0]) (a := x1) (l₂ := l)).symm)
theorem Own.front2 {x0 x1 x2 : Res} (H : Own B w0 w (x0 :: x1 :: x2 :: l)) : Own B w0 w (x2 :: x0 :: x1 :: l) := H.perm (by simpa using (List.perm_middle (l₁ := [x0, x1]) (a := x2) (l₂ := l)).symm)
theorem Own.front3 {x0 x1 x2 x3 : Res} (H : Own B w0 w (x0 :: x1 :: x2 :: x3 :: l)) : Own B w0 w (x3 :: x0 :: x1 :: x2 :: l) := H.perm (by simpa using (List.perm_middle (l₁ := [x0, x1, x2]) (a := x3) (l₂ := l)).symm)
theorem Own.front4 {x0 x1 x2 x3 x4 : Res} (H : Own B w0 w (x0 :: x1 :: x2 :: x3 :: x4 :: l)) : Own B w0 w (x4 :: x0 :: x1 :: x2 :: x3 :: l) := H.perm (by simpa using (List.perm_middle (l₁ := [x0, x1, x2, x3]) (a := x4) (l₂ := l)).symm)
theorem Own.front5 {x0 x1 x2 x3 x4 x5 : Res} (H : Own B w0 w (x0 :: x1 :: x2 :: x3 :: x4 :: x5 :: l)) : Own B w0 w (x5 :: x0 :: x1 :: x2 :: x3 :: x4 :: l) := H.perm (by simpa using (List.perm_middle (l₁ := [x0, x1, x2, x3, x4]) (a := x5) (l₂ := l)).symm)
theorem Own.front6 {x0 x1 x2 x3 x4 x5 x6 : Res} (H : Own B w0 w (x0 :: x1 :: x2 :: x3 :: x4 :: x5 :: x6 :: l)) : Own B w0 w (x6 :: x0 :: x1 :: x2 :: x3 :: x4 :: x5 :: l) := H.perm (by simpa using (List.perm_middle (l₁ := [x0, x1, x2, x3, x4, x5]) (a := x6) (l₂ := l)).symm)
theorem Own.front7 {x0 x1 x2 x3 x4 x5 x6 x7 : Res} (H : Own B w0 w (x0 :: x1 :: x2 :: x3 :: x4 :: x5 :: x6 :: x7 :: l)) : Own B w0 w (x7 :: x0 :: x1 :: x2 :: x3 :: x4 :: x5 :: x6 :: l) := H.perm (by simpa using (List.perm_middle (l₁ := [x0, x1, x2, x3, x4, x5, x6]) (a := x7) (l₂ := l)).symm)
theorem Own.front8 {x0 x1 x2 x3 x4 x5 x6 x7 x8 : Res} (H : Own B w0 w (x0 :: x1 :: x2 :: x3 :: x4 :: x5 :: x6 :: x7 :: x8 :: l)) : Own B w0 w (x8 :: x0 :: x1 :: x2 :: x3 :: x4 :: x5 :: x6 :: x7 :: l) := H.perm (by simpa using (List.perm_middle (l₁ := [x0, x1, x2, x3, x4, x5, x6, x7]) (a := x8) (l₂ := l)).symm)
theorem Own.front9 {x0 x1 x2 x3 x4 x5 x6 x7 x8 x9 : Res} (H : Own B w0 w (x0 :: x1 :: x2 :: x3 :: x4 :: x5 :: x6 :: x7 :: x8 :: x9 :: l)) : Own B w0 w (x9 :: x0 :: x1 :: x2 :: x3 :: x4 :: x5 :: x6 :: x7 :: x8 :: l) := H.perm (by simpa using (List.perm_middle (l₁ := [x0, x1, x2, x3, x4, x5, x6, x7, x8]) (a := x9) (l₂ := l)).symm)
theorem Own.front10 {x0 x1 x2 x3 x4 x5 x6 x7 x8 x9 x10 : Res} (H : Own B w0 w (x0 :: x1 :: x2 :: x3 :: x4 :: x5 :: x6 :: x7 :: x8 :: x9 :: x10 :: l)) : Own B w0 w (x10 :: x0 :: x1 :: x2 :: x3 :: x4 :: x5 :: x6 :: x7 :: x8 :: x9 :: l) := H.perm (by simpa using (List.perm_middle (l₁ := [x0, x1, x2, x3, x4, x5, x6, x7, x8, x9]) (a := x10) (l₂ := l)).symm)
theorem Own.swap {x y : Res} (H : Own B w0 w (x :: y :: l)) : Own B w0 w (y :: x :: l) := H.perm (.swap _ _ _)
theorem m0 {r  : Res} {l : List Res} : r ∈ r :: l := .head _
theorem m1 {r x0 : Res} {l : List Res} : r ∈ x0 :: r :: l := .tail _ (.head _)
theorem m2 {r x0 x1 : Res} {l : List Res} : r ∈ x0 :: x1 :: r :: l := .tail _ (.tail _ (.head _))
theorem m3 {r x0 x1 x2 : Res} {l : List Res} : r ∈ x0 :: x1 :: x2 :: r :: l := .tail _ (.tail _ (.tail _ (.head _)))
theorem m4 {r x0 x1 x2 x3 : Res} {l : List Res} : r ∈ x0 :: x1 :: x2 :: x3 :: r :: l := .tail _ (.tail _ (.tail _ (.tail _ (.head _))))
theorem m5 {r x0 x1 x2 x3 x4 : Res} {l : List Res} : r ∈ x0 :: x1 :: x2 :: x3 :: x4 :: r :: l := .tail _ (.tail _ (.tail _ (.tail _ (.tail _ (.head _)))))
theorem m6 {r x0 x1 x2 x3 x4 x5 : Res} {l : List Res} : r ∈ x0 :: x1 :: x2 :: x3 :: x4 :: x5 :: r :: l := .tail _ (.tail _ (.tail _ (.tail _ (.tail _ (.tail _ (.head _))))))
theorem m7 {r x0 x1 x2 x3 x4 x5 x6 : Res} {l : List Res} : r ∈ x0 :: x1 :: x2 :: x3 :: x4 :: x5 :: x6 :: r :: l := .tail _ (.tail _ (.tail _ (.tail _ (.tail _ (.tail _ (.tail _ (.head _)))))))
theorem m8 {r x0 x1 x2 x3 x4 x5 x6 x7 : Res} {l : List Res} : r ∈ x0 :: x1 :: x2 :: x3 :: x4 :: x5 :: x6 :: x7 :: r :: l := .tail _ (.tail _ (.tail _ (.tail _ (.tail _ (.tail _ (.tail _ (.tail _ (.head _))))))))
theorem m9 {r x0 x1 x2 x3 x4 x5 x6 x7 x8 : Res} {l : List Res} : r ∈ x0 :: x1 :: x2 :: x3 :: x4 :: x5 :: x6 :: x7 :: x8 :: r :: l := .tail _ (.tail _ (.tail _ (.tail _ (.tail _ (.tail _ (.tail _ (.tail _ (.tail _ (.head _)))))))))
theorem r0 {r r'  : Res} {l : List Res} : Rep r r' (r :: l) (r' :: l) := .here
theorem r1 {r r' x0 : Res} {l : List Res} : Rep r r' (x0 :: r :: l) (x0 :: r' :: l) := .there (.here)
theorem r2 {r r' x0 x1 : Res} {l : List Res} : Rep r r' (x0 :: x1 :: r :: l) (x0 :: x1 :: r' :: l) := .there (.there (.here))
theorem r3 {r r' x0 x1 x2 : Res} {l : List Res} : Rep r r' (x0 :: x1 :: x2 :: r :: l) (x0 :: x1 :: x2 :: r' :: l) := .there (.there (.there (.here)))
theorem r4 {r r' x0 x1 x2 x3 : Res} {l : List Res} : Rep r r' (x0 :: x1 :: x2 :: x3 :: r :: l) (x0 :: x1 :: x2 :: x3 :: r' :: l) := .there (.there (.there (.there (.here))))
theorem r5 {r r' x0 x1 x2 x3 x4 : Res} {l : List Res} : Rep r r' (x0 :: x1 :: x2 :: x3 :: x4 :: r :: l) (x0 :: x1 :: x2 :: x3 :: x4 :: r' :: l) := .there (.there (.there (.there (.there (.here)))))
theorem r6 {r r' x0 x1 x2 x3 x4 x5 : Res} {l : List Res} : Rep r r' (x0 :: x1 :: x2 :: x3 :: x4 :: x5 :: r :: l) (x0 :: x1 :: x2 :: x3 :: x4 :: x5 :: r' :: l) := .there (.there (.there (.there (.there (.there (.here))))))
theorem r7 {r r' x0 x1 x2 x3 x4 x5 x6 : Res} {l : List Res} : Rep r r' (x0 :: x1 :: x2 :: x3 :: x4 :: x5 :: x6 :: r :: l) (x0 :: x1 :: x2 :: x3 :: x4 :: x5 :: x6 :: r' :: l) := .there (.there (.there (.there (.there (.there (.there (.here)))))))
theorem r8 {r r' x0 x1 x2 x3 x4 x5 x6 x7 : Res} {l : List Res} : Rep r r' (x0 :: x1 :: x2 :: x3 :: x4 :: x5 :: x6 :: x7 :: r :: l) (x0 :: x1 :: x2 :: x3 :: x4 :: x5 :: x6 :: x7 :: r' :: l) := .there (.there (.there (.there (.there (.there (.there (.there (.here))))))))
theorem r9 {r r' x0 x1 x2 x3 x4 x5 x6 x7 x8 : Res} {l : List Res} : Rep r r' (x0 :: x1 :: x2 :: x3 :: x4 :: x5 :: x6 :: x7 :: x8 :: r :: l) (x0 :: x1 :: x2 :: x3 :: x4 :: x5 :: x6 :: x7 :: x8 :: r' :: l) := .there (.there (.there (.there (.there (.there (.there (.there (.there (.here)))))))))
variable {P : Program} {ops : Array Oper} {Q : Exit → Act → World → Prop}
theorem YieldsIf.less {S S' : World → Prop} {o : Oper} {v : Value} {a : Act} (hy : YieldsIf P ops S o v a) (h : ∀ w, S' w → S w) : YieldsIf P ops S' o v a :=
 hy.imp (fun ⟨h1, h2⟩ => ⟨h1, fun w hw => h2 w (h w hw)⟩) id
def wpAnyS (P : Program) (ops : Array Oper) (Q : Exit → Act → World → Prop) : Nat → (World → Prop) → Array Bool → Act → World → Prop
 | 0, _, done, a, w => Region.ready .any ops done = [] ∧ Q .normal a w
 | f + 1, S, done, a, w => (Region.ready .any ops done = [] → Q .normal a w) ∧
  ∀ i ∈ Region.ready .any ops done, wpOp P ops Q i (fun a' w' => ∃ S' : World → Prop, (∀ w, S' w → S w) ∧ S' w' ∧ wpAnyS P ops Q f S' (done.setIfInBounds i true) a' w') a w
theorem wpAny_of_S : ∀ (f : Nat) (S : World → Prop) (done : Array Bool) (a : Act) (w : World), wpAnyS P ops Q f S done a w → wpAny P .any ops Q f done a w
 | 0, _, _, _, _, h => h
 | f + 1, _, _, _, _, h => ⟨h.1, fun i hi => wpOp_mono (fun a' w' ⟨S', _, _, h'⟩ => wpAny_of_S f S' _ a' w' h') (h.2 i hi)⟩
theorem wpAnyS_first {i : Nat} {o : Oper} {v : Value} (ho : ops[i]? = some o) (hsel : ∀ (j : Nat) (x : Oper) cs b, ops[j]? = some x → x.op ≠ .select cs b)
  (hQ : ∀ c a w, Q (.panic c) (a.put o.dst v) w → Q (.panic c) a w) :
  ∀ (f : Nat) (S : World → Prop) (done : Array Bool) (a : Act) (w : World),
   (∀ j x, ops[j]? = some x → j ≠ i → done.getD j true = false → (∀ e ∈ x.after, Region.binds .any e = true → e.on ≠ i) → o.apart ops x = true) →
   i ∈ Region.ready .any ops done → YieldsIf P ops S o v a → S w → wpAnyS P ops Q f S (done.setIfInBounds i true) (a.put o.dst v) w → wpAnyS P ops Q (f + 1) S done a w := by
 intro f
 induction f with
 | zero =>
  intro S done a w _ hr hy hS H
  refine ⟨fun h => (by rw [h] at hr; cases hr), fun j hj => ?_⟩
  by_cases hji : j = i
  ·subst hji; exact hy.wpOp ho hS ⟨S, fun _ h => h, hS, H⟩
  ·have := ready_mono hj hji
   rw [H.1] at this
   cases this
 | succ f ih =>
  intro S done a w hfree hr hy hS H
  refine ⟨fun h => (by rw [h] at hr; cases hr), fun j hj => ?_⟩
  by_cases hji : j = i
  ·subst hji; exact hy.wpOp ho hS ⟨S, fun _ h => h, hS, H⟩
  ·have h1 := H.2 j (ready_mono hj hji)
   obtain ⟨hjun, x, hx, hall⟩ := mem_ready.1 hj
   have hnot : ∀ e ∈ x.after, Region.binds .any e = true → e.on ≠ i := fun e he hb heq => by
    have h1 := hall e he hb
    have h0 := (mem_ready.1 hr).1
    rw [heq] at h1
    rcases Nat.lt_or_ge i done.size with h' | h'
    ·simp [h'] at h0 h1; rw [h0] at h1; cases h1
    ·simp [Array.getElem?_eq_none h'] at h1
   have h2 := wpOp_putIf hx (hfree j x hx hji hjun hnot) (fun cs b => hsel i o cs b ho) (fun cs b => hsel j x cs b hx) hQ hy h1
   refine wpOp_mono (fun a' w' h3 => ?_) h2
   obtain ⟨hy', S', hSS, hS', hH⟩ := h3
   refine ⟨S', hSS, hS', ih S' (done.setIfInBounds j true) a' w' ?_ (ready_mono hr (Ne.symm hji)) (YieldsIf.less hy' hSS) hS' ?_⟩
   ·intro k y hk hki hkun hno
    refine hfree k y hk hki ?_ hno
    by_cases hjk : j = k
    ·subst hjk; exact hjun
    ·rw [getD_set_ne true hjk] at hkun; exact hkun
   ·rw [Array.setIfInBounds_comm _ _ hji]; exact hH
inductive Tr where
 | nil
 | q (i : Nat) (t : Tr)
 | e (i : Nat) (t : Tr)
 | both (s t : Tr)
def wpTree (P : Program) (ops : Array Oper) (Q : Exit → Act → World → Prop) : Tr → (World → Prop) → Act → World → Prop
 | .nil, _, a, w => Q .normal a w
 | .q i t, S, a, w => ∃ o v, ops[i]? = some o ∧ YieldsIf P ops S o v a ∧ S w ∧ wpTree P ops Q t S (a.put o.dst v) w
 | .e i t, S, a, w => wpOp P ops Q i (fun a' w' => ∃ S' : World → Prop, (∀ w, S' w → S w) ∧ S' w' ∧ wpTree P ops Q t S' a' w') a w
 | .both s t, S, a, w => wpTree P ops Q s S a w ∧ wpTree P ops Q t S a w
def Tr.heads : Tr → List Nat
 | .e i _ => [i]
 | .both s t => s.heads ++ t.heads
 | _ => []
def brB (B : Tr → Array Bool → Bool) (done : Array Bool) : Tr → Bool
 | .e i t => B t (done.setIfInBounds i true)
 | .both s t => brB B done s && brB B done t
 | _ => false
def treeB (ops : Array Oper) : Nat → Tr → Array Bool → Bool
 | 0, .nil, done => Region.ready .any ops done == []
 | 0, _, _ => false
 | _ + 1, .nil, _ => false
 | f + 1, .q i t, done => (Region.ready .any ops done).contains i && Region.free .any ops done i && treeB ops f t (done.setIfInBounds i true)
 | f + 1, t, done => Region.ready .any ops done == t.heads && !t.heads.isEmpty && brB (treeB ops f) done t
theorem tree_branch {B : Tr → Array Bool → Bool} {S : World → Prop} {done : Array Bool} {a : Act} {w : World} {i : Nat} : ∀ {t : Tr}, i ∈ t.heads → brB B done t = true → wpTree P ops Q t S a w →
  ∃ t', B t' (done.setIfInBounds i true) = true ∧ wpOp P ops Q i (fun a' w' => ∃ S' : World → Prop, (∀ w, S' w → S w) ∧ S' w' ∧ wpTree P ops Q t' S' a' w') a w := by
 intro t
 induction t with
 | nil => intro h; cases h
 | q j t _ => intro h; cases h
 | e j t _ =>
  intro h hB hw
  obtain rfl : i = j := by simpa [Tr.heads] using h
  exact ⟨t, hB, hw⟩
 | both s t hs ht =>
  intro h hB hw
  simp only [brB, Bool.and_eq_true] at hB
  rcases List.mem_append.1 h with h | h
  ·exact hs h hB.1 hw.1
  ·exact ht h hB.2 hw.2
theorem anyS_tree (hsel : Region.noSelect ops = true) (hQ : ∀ c a d v w, Q (.panic c) (Act.put a d v) w → Q (.panic c) a w) :
  ∀ (f : Nat) (t : Tr) (S : World → Prop) (done : Array Bool) (a : Act) (w : World), treeB ops f t done = true → wpTree P ops Q t S a w → wpAnyS P ops Q f S done a w := by
 intro f
 induction f with
 | zero =>
  intro t S done a w hB h
  cases t with
  | nil => exact ⟨by simpa [treeB] using hB, h⟩
  | _ => simp [treeB] at hB
 | succ f ih =>
  have branch : ∀ (t : Tr) (S : World → Prop) (done : Array Bool) (a : Act) (w : World), (Region.ready .any ops done == t.heads && !t.heads.isEmpty && brB (treeB ops f) done t) = true → wpTree P ops Q t S a w → wpAnyS P ops Q (f + 1) S done a w := by
   intro t S done a w hB h
   simp only [Bool.and_eq_true, beq_iff_eq, Bool.not_eq_true'] at hB
   obtain ⟨⟨hr, hne⟩, hb⟩ := hB
   refine ⟨by rw [hr]; intro h0; rw [h0] at hne; simp at hne, fun i hi => ?_⟩
   obtain ⟨t', hB', hw'⟩ := tree_branch (by rw [← hr]; exact hi) hb h
   exact wpOp_mono (fun a' w' ⟨S', h1, h2, h3⟩ => ⟨S', h1, h2, ih t' S' _ _ _ hB' h3⟩) hw'
  intro t S done a w hB h
  cases t with
  | nil => simp [treeB] at hB
  | q i t =>
   simp only [treeB, Bool.and_eq_true] at hB
   obtain ⟨⟨hr, hf⟩, hB'⟩ := hB
   obtain ⟨o, v, ho, hy, hS, hK⟩ := h
   exact wpAnyS_first ho (Region.noSelect_spec hsel) (fun c a w h => hQ c a o.dst v w h) f S done a w (Region.free_spec ho hf) (by simpa using hr) hy hS (ih _ _ _ _ _ hB' hK)
  | e i t => exact branch _ S done a w hB h
  | both s t => exact branch _ S done a w hB h
inductive Suf : List Res → List Res → Prop
 | here {l : List Res} : Suf l l
 | there {x : Res} {l m : List Res} : Suf l m → Suf l (x :: m)
theorem Suf.mem {l m : List Res} (h : Suf l m) {r : Res} (hr : r ∈ l) : r ∈ m := by
 induction h with
 | here => exact hr
 | there _ ih => exact List.mem_cons_of_mem _ (ih hr)
def Keeps (B : Nat) (w0 : World) (lf : List Res) (w : World) : Prop := ∃ l, Own B w0 w l ∧ Suf lf l
theorem Suf.trans {l m n : List Res} (h : Suf l m) (k : Suf m n) : Suf l n := by
 induction k with
 | here => exact h
 | there _ ih => exact .there (ih h)
theorem Keeps.less {B : Nat} {w0 : World} {lf lf' : List Res} (h : Suf lf lf') : ∀ w, Keeps B w0 lf' w → Keeps B w0 lf w := fun w ⟨l, H, hs⟩ => ⟨l, H, h.trans hs⟩
theorem s0 {l : List Res} : Suf l l := .here
theorem s1 {x1 : Res} {l : List Res} : Suf l (x1 :: l) := .there .here
theorem s2 {x1 x2 : Res} {l : List Res} : Suf l (x1 :: x2 :: l) := .there s1
theorem s3 {x1 x2 x3 : Res} {l : List Res} : Suf l (x1 :: x2 :: x3 :: l) := .there s2
theorem s4 {x1 x2 x3 x4 : Res} {l : List Res} : Suf l (x1 :: x2 :: x3 :: x4 :: l) := .there s3
theorem s5 {x1 x2 x3 x4 x5 : Res} {l : List Res} : Suf l (x1 :: x2 :: x3 :: x4 :: x5 :: l) := .there s4
theorem s6 {x1 x2 x3 x4 x5 x6 : Res} {l : List Res} : Suf l (x1 :: x2 :: x3 :: x4 :: x5 :: x6 :: l) := .there s5
theorem s7 {x1 x2 x3 x4 x5 x6 x7 : Res} {l : List Res} : Suf l (x1 :: x2 :: x3 :: x4 :: x5 :: x6 :: x7 :: l) := .there s6
theorem s8 {x1 x2 x3 x4 x5 x6 x7 x8 : Res} {l : List Res} : Suf l (x1 :: x2 :: x3 :: x4 :: x5 :: x6 :: x7 :: x8 :: l) := .there s7
structure Key (n : Nat) (p : Prop) : Prop where
 out : p
def treeOk (ops : Array Oper) (t : Tr) : Bool := Region.noSelect ops && treeB ops ops.size t (Array.replicate ops.size false)
theorem region_tree {id : Nat} {a : Act} {w w0 : World} {B : Nat} {rs : List Res} {l : List Oper} {G : Prop} (tag k : Nat) (t : Tr) (hm : P.follows .mixedOrders = true) (hQ : ∀ c a d v w, Q (.panic c) (Act.put a d v) w → Q (.panic c) a w) (hB : treeOk l.toArray t = true)
  (H : Own B w0 w rs) (hG : Key tag G) (h : Key tag G → ∀ w', Own B w0 w' rs → wpTree P l.toArray Q t (Keeps B w0 (rs.drop k)) a w') : (Code.region id l.toArray true).wp P Q a w := by
 simp only [treeOk, Bool.and_eq_true] at hB
 exact wp_region_any hm (wpAny_of_S _ _ _ _ _ (anyS_tree hB.1 hQ _ t _ _ a w.drew hB.2 (h hG _ H.drew)))
theorem region_tree0 {id : Nat} {a : Act} {w w0 : World} {B : Nat} {rs : List Res} {l : List Oper} {G : Prop} (tag : Nat) (t : Tr) (hm : P.follows .mixedOrders = true) (hQ : ∀ c a d v w, Q (.panic c) (Act.put a d v) w → Q (.panic c) a w) (hB : treeOk l.toArray t = true)
  (H : Own B w0 w rs) (hG : Key tag G) (h : Key tag G → ∀ w', Own B w0 w' rs → wpTree P l.toArray Q t (Keeps B w0 rs) a w') : (Code.region id l.toArray true).wp P Q a w   := region_tree tag 0 t hm hQ hB H hG h
section
variable {S : World → Prop} {t s : Tr} {i : Nat} {a : Act} {w : World} {o : Oper}
def quietB : Op → Bool
 | .move _ | .assign _ | .pick .. | .load .. | .binOp .. | .unOp .. | .build .. | .fieldAddr .. | .field .. | .indexAddr .. | .index .. | .extract .. | .slice .. | .convert .. | .lookup .. | .makeFunc .. | .makeInterface .. => true
 | .call { callee := .builtin .len, .. } | .call { callee := .builtin .cap, .. } | .call { callee := .builtin .min, .. } | .call { callee := .builtin .max, .. } => true
 | _ => false
theorem run_value {w w' : World} {s : Sem Value} {n : Next} (h : (do pure (Next.value (← s)) : Sem Next).run P w = .ok n w') : ∃ u, n = .value u := by
 rw [Sem.run_bind] at h
 cases hs : s.run P w with
 | ok u w1 => rw [hs] at h; simp only [Result.andThen_ok, Sem.run_pure] at h; exact ⟨u, by injection h with h _; exact h.symm⟩
 | halt x w1 => rw [hs] at h; simp [Result.andThen] at h
theorem quietB_value {w w' : World} {ρ : Operand → Value} {n : Next} (hb : quietB o.op = true) (h : (execOp ρ o).run P w = .ok n w') : ∃ u, n = .value u := by
 obtain ⟨dst, op, type, pos, after, guard⟩ := o
 cases op
 case move x => simp only [execOp, Sem.run_pure] at h; injection h with h _; exact ⟨_, h.symm⟩
 case assign x => simp only [execOp, Sem.run_pure] at h; injection h with h _; exact ⟨_, h.symm⟩
 case pick c x y => exact run_value (s := do if ← asBool (ρ c) then pure (ρ x) else pure (ρ y)) (by
  rw [← h]; simp only [execOp]
  simp only [Sem.run_bind]
  cases (asBool (ρ c)).run P w with
  | ok t w1 => cases t <;> simp [Result.andThen]
  | halt x w1 => simp [Result.andThen])
 case call c =>
  obtain ⟨callee, args, tys⟩ := c
  cases callee with
  | builtin b =>
   cases b <;> first | (simp [quietB] at hb; done) | exact run_value h
  | _ => simp [quietB] at hb
 all_goals first | (simp [quietB] at hb; done) | exact run_value h
theorem tree_quiet (hS : S w) (ho : ops[i]? = some o) (hb : quietB o.op = true) (hw : Region.wanted o (yielded ops a.tmps) = true)
  (h : ∀ K : Act → Prop, (∀ a, wpTree P ops Q t S a w → K a) → o.quiet P a S K) : wpTree P ops Q (.q i t) S a w := by
 obtain ⟨v, h1, h2⟩ := h (fun a => wpTree P ops Q t S a w) (fun _ h => h)
 refine ⟨o, v, ho, .inl ⟨hw, fun w' hw' => ?_⟩, hS, h2⟩
 have h3 := h1 w' hw'
 unfold Oper.quietAt at h3
 cases hr : (execOp a.eval o).run P w' with
 | ok n w'' =>
  obtain ⟨u, rfl⟩ := quietB_value hb hr
  rw [hr] at h3
  obtain ⟨rfl, rfl⟩ := h3
  rfl
 | halt x w'' => rw [hr] at h3; exact h3.elim
theorem tree_skip (hS : S w) (ho : ops[i]? = some o) (hw : Region.wanted o (yielded ops a.tmps) = false) (h : wpTree P ops Q t S (a.put o.dst undef) w) : wpTree P ops Q (.q i t) S a w := ⟨o, undef, ho, .inr ⟨hw, rfl⟩, hS, h⟩
theorem tree_one (ho : ops[i]? = some o) (hw : Region.wanted o (yielded ops a.tmps) = true) (h : ∀ K : Act → World → Prop, (∀ a w', S w' → wpTree P ops Q t S a w' → K a w') → o.wp P a w K Q) :
  wpTree P ops Q (.e i t) S a w := by
 show wpOp P ops Q i _ a w
 unfold wpOp
 simp only [ho, hw, if_true]
 exact .inl (h _ fun a w' h1 h2 => ⟨S, fun _ h => h, h1, h2⟩)
theorem tree_one_skip (hS : S w) (ho : ops[i]? = some o) (hw : Region.wanted o (yielded ops a.tmps) = false) (h : wpTree P ops Q t S (a.put o.dst undef) w) : wpTree P ops Q (.e i t) S a w := by
 show wpOp P ops Q i _ a w
 unfold wpOp
 simp only [ho, hw, Bool.false_eq_true, if_false]
 exact ⟨S, fun _ h => h, hS, h⟩
theorem tree_both (h1 : wpTree P ops Q s S a w) (h2 : wpTree P ops Q t S a w) : wpTree P ops Q (.both s t) S a w := ⟨h1, h2⟩
theorem tree_nil (h : Q .normal a w) : wpTree P ops Q .nil S a w := h
end
variable {P : Program} {ops : Array Oper} {Q : Exit → Act → World → Prop}
theorem Ext.refl (w : World) : Ext w w := Below.refl _ _
theorem Ext.trans {w w' w'' : World} (h : Ext w w') (h' : Ext w' w'') : Ext w w'' := Below.trans h (h'.mono h.size)
abbrev noQ : Exit → Act → World → Prop := fun _ _ _ => False
def Calm (P : Program) (ops : Array Oper) (S : World → Prop) (o : Oper) (v : Value) (a : Act) : Prop :=
 Region.wanted o (yielded ops a.tmps) = true ∧ ∀ w, S w → o.wp P a w (fun a' w' => a' = a.put o.dst v ∧ Ext w w') noQ
theorem Calm.less {S S' : World → Prop} {o : Oper} {v : Value} {a : Act} (hy : Calm P ops S o v a) (h : ∀ w, S' w → S w) : Calm P ops S' o v a := ⟨hy.1, fun w hw => hy.2 w (h w hw)⟩
theorem letsOut_none (h : LetsOut noQ) : False := by
 obtain ⟨_, _, h⟩ := h
 exact h
theorem wp_noQ {o : Oper} {a : Act} {w : World} {K : Act → World → Prop} (h : o.wp P a w K noQ) : o.wp P a w K Q := by
 unfold Oper.wp at *
 generalize (execOp a.eval o).run P w = r at *
 cases r with
 | ok n w' =>
  cases n <;> simp only [Oper.upon] at h ⊢ <;>
   first
    | exact h
    | exact Calls.mono h (fun e w'' he => by cases e <;> first | exact he | exact he.elim | exact (letsOut_none he).elim)
 | halt x w' => cases x <;> simp only [Oper.upon] at h ⊢ <;> first | exact h | exact h.elim
theorem Calm.wpOp {S : World → Prop} {i : Nat} {o : Oper} {v : Value} {a : Act} (hi : ops[i]? = some o) (hy : Calm P ops S o v a) {K : Act → World → Prop} {w : World} (hS : S w) (h : ∀ w', Ext w w' → K (a.put o.dst v) w') : wpOp P ops Q i K a w := by
 unfold Go.wpOp
 simp only [hi, hy.1, if_true]
 exact .inl (Oper.wp_mono (fun a' w' ⟨h1, h2⟩ => by rw [h1]; exact h w' h2) (wp_noQ (hy.2 w hS)))
theorem Calm.put {S : World → Prop} {o : Oper} {v : Value} {a : Act} (hy : Calm P ops S o v a) (hs : ∀ cs b, o.op ≠ .select cs b) (dst : Option Tmp) (u : Value) (h : ∀ d, dst = some d → d ∉ o.looksAt ops) (hd : ∀ d, o.dst = some d → dst ≠ some d) : Calm P ops S o v (a.put dst u) := by
 refine ⟨by rw [wanted_put o a dst u h]; exact hy.1, fun w hw => ?_⟩
 have h2 := hy.2 w hw
 unfold Oper.wp at *
 rw [execOp_put o hs a dst u h]
 generalize (execOp a.eval o).run P w = r at *
 have key : ∀ z, a.put o.dst z = a.put o.dst v → (a.put dst u).put o.dst z = (a.put dst u).put o.dst v := fun z hz => by
  rw [← Act.put_comm a z u hd, ← Act.put_comm a v u hd, hz]
 cases r with
 | ok n w' =>
  cases n <;> simp only [Oper.upon] at h2 ⊢
  case value z => exact ⟨key z h2.1, h2.2⟩
  case skip => exact ⟨key _ h2.1, h2.2⟩
  case defer d =>
   exfalso
   have := congrArg (fun x : Act => x.defers.length) h2.1
   cases hdst : o.dst <;> simp [hdst, Act.put] at this
  case enter f args =>
   refine Calls.mono h2 fun e w'' he => ?_
   cases e with
   | returned z => exact ⟨key z he.1, he.2⟩
   | panicked c => exact he
   | outgrown => exact he
  case row row args => exact Rows.mono h2 fun z w'' he => ⟨key z he.1, he.2⟩
  all_goals exact h2
 | halt x w' => cases x <;> simp only [Oper.upon] at h2 ⊢ <;> exact h2
theorem Calm.defers {S : World → Prop} {o : Oper} {v : Value} {a : Act} (hy : Calm P ops S o v a) (d : Deferred) : Calm P ops S o v { a with defers := d :: a.defers } := by
 refine ⟨hy.1, fun w hw => ?_⟩
 have h2 := hy.2 w hw
 unfold Oper.wp at *
 have hev : execOp ({ a with defers := d :: a.defers } : Act).eval o = execOp a.eval o := rfl
 rw [hev]
 generalize (execOp a.eval o).run P w = r at *
 have key : ∀ z, a.put o.dst z = a.put o.dst v → ({ a with defers := d :: a.defers } : Act).put o.dst z = ({ a with defers := d :: a.defers } : Act).put o.dst v := fun z hz => by
  rw [← Act.put_defers, ← Act.put_defers, hz]
 cases r with
 | ok n w' =>
  cases n <;> simp only [Oper.upon] at h2 ⊢
  case value z => exact ⟨key z h2.1, h2.2⟩
  case skip => exact ⟨key _ h2.1, h2.2⟩
  case defer d' =>
   exfalso
   have := congrArg (fun x : Act => x.defers.length) h2.1
   cases hdst : o.dst <;> simp [hdst, Act.put] at this
  case enter f args =>
   refine Calls.mono h2 fun e w'' he => ?_
   cases e with
   | returned z => exact ⟨key z he.1, he.2⟩
   | panicked c => exact he
   | outgrown => exact he
  case row row args => exact Rows.mono h2 fun z w'' he => ⟨key z he.1, he.2⟩
  all_goals exact h2
 | halt x w' => cases x <;> simp only [Oper.upon] at h2 ⊢ <;> exact h2
theorem wpOp_putCalm {S : World → Prop} {j : Nat} {oi oj : Oper} {v : Value} (hj : ops[j]? = some oj) (hap : oi.apart ops oj = true)
  (hsi : ∀ cs b, oi.op ≠ .select cs b) (hsj : ∀ cs b, oj.op ≠ .select cs b)
  (hQ : ∀ c a w, Q (.panic c) (a.put oi.dst v) w → Q (.panic c) a w) {K : Act → World → Prop} {a : Act} {w : World}
  (hy : Calm P ops S oi v a) (h : wpOp P ops Q j K (a.put oi.dst v) w) :
  wpOp P ops Q j (fun a' w' => Calm P ops S oi v a' ∧ K (a'.put oi.dst v) w') a w := by
 obtain ⟨h1, h2, h3⟩ := Oper.apart_spec hap
 have keep : ∀ (a : Act), Calm P ops S oi v a → ∀ u, Calm P ops S oi v (a.put oj.dst u) := fun a hy u => hy.put hsi oj.dst u h3 h2
 unfold wpOp at *
 simp only [hj] at *
 rw [wanted_put oj a oi.dst v h1] at h
 split
 ·rename_i hw
  simp only [hw, if_true] at h
  rcases h with h | ⟨hasks, hlets⟩
  case inr => exact .inr ⟨by unfold Oper.asks at *; rw [execOp_put oj hsj a oi.dst v h1] at hasks; exact hasks, hlets⟩
  refine .inl ?_
  unfold Oper.wp at *
  rw [execOp_put oj hsj a oi.dst v h1] at h
  generalize (execOp a.eval oj).run P w = r at *
  cases r with
  | ok n w' =>
   cases n <;> simp only [Oper.upon] at h ⊢
   case value u => exact ⟨keep a hy u, by rw [← Act.put_comm a v u h2]; exact h⟩
   case skip => exact ⟨keep a hy _, by rw [← Act.put_comm a v undef h2]; exact h⟩
   case defer d =>
    refine ⟨keep _ (hy.defers d) _, ?_⟩
    rw [← Act.put_comm _ v undef h2, ← Act.put_defers]
    exact h
   case enter f args =>
    refine Calls.mono h fun e w'' he => ?_
    cases e with
    | returned u => exact ⟨keep a hy u, by rw [← Act.put_comm a v u h2]; exact he⟩
    | panicked c => exact hQ _ _ _ he
    | outgrown => exact he
   case row row args => exact Rows.mono h fun u w'' he => ⟨keep a hy u, by rw [← Act.put_comm a v u h2]; exact he⟩
  | halt x w' =>
   cases x <;> simp only [Oper.upon] at h ⊢
   case panic u => exact hQ _ _ _ h
 ·rename_i hw
  simp only [hw] at h
  exact ⟨keep a hy _, by rw [← Act.put_comm a v undef h2]; exact h⟩
def Grows (S : World → Prop) : Prop := ∀ w w', S w → Ext w w' → S w'
def waits1 (ops : Array Oper) (j i : Nat) : Bool :=
 match ops[j]? with
 | none => false
 | some o => o.after.any fun e => Region.binds .any e && e.on == i
def waitsN (ops : Array Oper) : Nat → Nat → Nat → Bool
 | 0, _, _ => false
 | n + 1, j, i => waits1 ops j i || (List.range ops.size).any fun m => waits1 ops j m && waitsN ops n m i
def closerP (ops : Array Oper) (j : Nat) : Bool := (List.range ops.size).all fun k => k == j || waitsN ops 2 j k
def Down (ops : Array Oper) (done : Array Bool) : Prop := ∀ k m, done.getD k false = true → waits1 ops k m = true → done.getD m false = true
theorem down_start (ops : Array Oper) (n : Nat) : Down ops (Array.replicate n false) := by
 intro k m h
 rcases Nat.lt_or_ge k n with h' | h'
 ·simp [h'] at h
 ·simp [h'] at h
theorem ready_waits {done : Array Bool} {j m : Nat} (hj : j ∈ Region.ready .any ops done) (h : waits1 ops j m = true) : done.getD m false = true := by
 obtain ⟨_, x, hx, hall⟩ := mem_ready.1 hj
 unfold waits1 at h
 rw [hx] at h
 obtain ⟨e, he, h⟩ := Array.any_eq_true'.1 h
 simp only [Bool.and_eq_true, beq_iff_eq] at h
 have h1 := hall e he h.1
 rwa [h.2] at h1
theorem getD_set_false {done : Array Bool} {i k : Nat} (h : (done.setIfInBounds i true).getD k false = true) : k = i ∨ done.getD k false = true := by
 by_cases hik : i = k
 ·exact .inl hik.symm
 ·rw [getD_set_ne false hik] at h; exact .inr h
theorem Down.set {done : Array Bool} {i : Nat} (hD : Down ops done) (hi : i ∈ Region.ready .any ops done) : Down ops (done.setIfInBounds i true) := by
 intro k m h hw
 refine getD_set_true ?_
 rcases getD_set_false h with rfl | h
 ·exact ready_waits hi hw
 ·exact hD k m h hw
theorem down_waits {done : Array Bool} (hD : Down ops done) : ∀ (n j i : Nat), (∀ m, waits1 ops j m = true → done.getD m false = true) → waitsN ops n j i = true → done.getD i false = true
 | 0, _, _, _, h => by cases h
 | n + 1, j, i, hj, h => by
  simp only [waitsN, Bool.or_eq_true, List.any_eq_true, Bool.and_eq_true] at h
  rcases h with h | ⟨m, _, h1, h2⟩
  ·exact hj i h
  ·exact down_waits hD n m i (fun q hq => hD m q (hj m h1) hq) h2
theorem closerP_not {done : Array Bool} {i j : Nat} (hD : Down ops done) (hj : j ∈ Region.ready .any ops done) (hi : i ∈ Region.ready .any ops done) (hji : j ≠ i) : closerP ops j = false := by
 cases hc : closerP ops j with
 | false => rfl
 | true =>
  obtain ⟨h0, y, hy, _⟩ := mem_ready.1 hi
  have hlt : i < ops.size := (Array.getElem?_eq_some_iff.1 hy).1
  have := List.all_eq_true.1 hc i (List.mem_range.2 hlt)
  rcases Bool.or_eq_true_iff.1 this with h | h
  ·exact absurd (by simpa using h) (Ne.symm hji)
  ·have h1 := down_waits hD 2 j i (fun m hm => ready_waits hj hm) h
   rcases Nat.lt_or_ge i done.size with h' | h'
   ·simp [h'] at h0 h1; rw [h0] at h1; cases h1
   ·simp [Array.getElem?_eq_none h'] at h1
def wpAnyC (P : Program) (ops : Array Oper) (Q : Exit → Act → World → Prop) (S : World → Prop) : Nat → Array Bool → Act → World → Prop
 | 0, done, a, w => Region.ready .any ops done = [] ∧ ∀ w', Ext w w' → Q .normal a w'
 | f + 1, done, a, w => (Region.ready .any ops done = [] → ∀ w', Ext w w' → Q .normal a w') ∧
  ∀ i ∈ Region.ready .any ops done, ∀ w2, Ext w w2 → wpOp P ops Q i (fun a' w' => (closerP ops i = true ∨ S w') ∧ wpAnyC P ops Q S f (done.setIfInBounds i true) a' w') a w2
variable {S : World → Prop}
theorem wpAny_of_C : ∀ (f : Nat) (done : Array Bool) (a : Act) (w : World), wpAnyC P ops Q S f done a w → wpAny P .any ops Q f done a w
 | 0, _, _, w, h => ⟨h.1, h.2 w (Ext.refl w)⟩
 | f + 1, _, _, w, h => ⟨fun hr => h.1 hr w (Ext.refl w), fun i hi => wpOp_mono (fun a' w' ⟨_, h'⟩ => wpAny_of_C f _ a' w' h') (h.2 i hi w (Ext.refl w))⟩
theorem wpAnyC_ext : ∀ (f : Nat) (done : Array Bool) (a : Act) (w w' : World), wpAnyC P ops Q S f done a w → Ext w w' → wpAnyC P ops Q S f done a w'
 | 0, _, _, _, _, h, hx => ⟨h.1, fun w2 h2 => h.2 w2 (hx.trans h2)⟩
 | _ + 1, _, _, _, _, h, hx => ⟨fun hr w2 h2 => h.1 hr w2 (hx.trans h2), fun i hi w2 h2 => h.2 i hi w2 (hx.trans h2)⟩
def First (P : Program) (ops : Array Oper) (S : World → Prop) (o : Oper) (v : Value) (a : Act) : Prop := YieldsIf P ops S o v a ∨ Calm P ops S o v a
theorem First.wpOp {i : Nat} {o : Oper} {v : Value} {a : Act} (hi : ops[i]? = some o) (hy : First P ops S o v a) {K : Act → World → Prop} {w : World} (hS : S w) (h : ∀ w', Ext w w' → K (a.put o.dst v) w') : wpOp P ops Q i K a w := by
 rcases hy with hy | hy
 ·exact hy.wpOp hi hS (h w (Ext.refl w))
 ·exact hy.wpOp hi hS h
theorem wpOp_putFirst {j : Nat} {oi oj : Oper} {v : Value} (hj : ops[j]? = some oj) (hap : oi.apart ops oj = true)
  (hsi : ∀ cs b, oi.op ≠ .select cs b) (hsj : ∀ cs b, oj.op ≠ .select cs b)
  (hQ : ∀ c a w, Q (.panic c) (a.put oi.dst v) w → Q (.panic c) a w) {K : Act → World → Prop} {a : Act} {w : World}
  (hy : First P ops S oi v a) (h : wpOp P ops Q j K (a.put oi.dst v) w) :
  wpOp P ops Q j (fun a' w' => First P ops S oi v a' ∧ K (a'.put oi.dst v) w') a w := by
 rcases hy with hy | hy
 ·exact wpOp_mono (fun a' w' h => ⟨.inl h.1, h.2⟩) (wpOp_putIf hj hap hsi hsj hQ hy h)
 ·exact wpOp_mono (fun a' w' h => ⟨.inr h.1, h.2⟩) (wpOp_putCalm hj hap hsi hsj hQ hy h)
theorem wpAnyC_first (hG : Grows S) {i : Nat} {o : Oper} {v : Value} (ho : ops[i]? = some o) (hsel : ∀ (j : Nat) (x : Oper) cs b, ops[j]? = some x → x.op ≠ .select cs b)
  (hQ : ∀ c a w, Q (.panic c) (a.put o.dst v) w → Q (.panic c) a w) :
  ∀ (f : Nat) (done : Array Bool) (a : Act) (w : World),
   (∀ j x, ops[j]? = some x → j ≠ i → done.getD j true = false → (∀ e ∈ x.after, Region.binds .any e = true → e.on ≠ i) → o.apart ops x = true) →
   Down ops done → i ∈ Region.ready .any ops done → First P ops S o v a → S w → wpAnyC P ops Q S f (done.setIfInBounds i true) (a.put o.dst v) w → wpAnyC P ops Q S (f + 1) done a w := by
 intro f
 induction f with
 | zero =>
  intro done a w _ hD hr hy hS H
  refine ⟨fun h => (by rw [h] at hr; cases hr), fun j hj w2 hx => ?_⟩
  by_cases hji : j = i
  ·subst hji; exact hy.wpOp ho (hG _ _ hS hx) fun w3 h3 => ⟨.inr (hG _ _ hS (hx.trans h3)), wpAnyC_ext _ _ _ _ _ H (hx.trans h3)⟩
  ·have := ready_mono hj hji
   rw [H.1] at this
   cases this
 | succ f ih =>
  intro done a w hfree hD hr hy hS H
  refine ⟨fun h => (by rw [h] at hr; cases hr), fun j hj w2 hx => ?_⟩
  by_cases hji : j = i
  ·subst hji; exact hy.wpOp ho (hG _ _ hS hx) fun w3 h3 => ⟨.inr (hG _ _ hS (hx.trans h3)), wpAnyC_ext _ _ _ _ _ H (hx.trans h3)⟩
  ·have h1 := H.2 j (ready_mono hj hji) w2 hx
   obtain ⟨hjun, x, hxo, hall⟩ := mem_ready.1 hj
   have hnot : ∀ e ∈ x.after, Region.binds .any e = true → e.on ≠ i := fun e he hb heq => by
    have h1 := hall e he hb
    have h0 := (mem_ready.1 hr).1
    rw [heq] at h1
    rcases Nat.lt_or_ge i done.size with h' | h'
    ·simp [h'] at h0 h1; rw [h0] at h1; cases h1
    ·simp [Array.getElem?_eq_none h'] at h1
   have h2 := wpOp_putFirst hxo (hfree j x hxo hji hjun hnot) (fun cs b => hsel i o cs b ho) (fun cs b => hsel j x cs b hxo) hQ hy h1
   refine wpOp_mono (fun a' w' h3 => ?_) h2
   obtain ⟨hy', hS', hH⟩ := h3
   have hS' := hS'.resolve_left (by rw [closerP_not hD hj hr hji]; simp)
   refine ⟨.inr hS', ih (done.setIfInBounds j true) a' w' ?_ (hD.set hj) (ready_mono hr (Ne.symm hji)) hy' hS' ?_⟩
   ·intro k y hk hki hkun hno
    refine hfree k y hk hki ?_ hno
    by_cases hjk : j = k
    ·subst hjk; exact hjun
    ·rw [getD_set_ne true hjk] at hkun; exact hkun
   ·rw [Array.setIfInBounds_comm _ _ hji]; exact hH
def wpTreeC (P : Program) (ops : Array Oper) (Q : Exit → Act → World → Prop) : Tr → (World → Prop) → Act → World → Prop
 | .nil, _, a, w => ∀ w', Ext w w' → Q .normal a w'
 | .q i t, S, a, w => ∃ o v, ops[i]? = some o ∧ First P ops S o v a ∧ S w ∧ wpTreeC P ops Q t S (a.put o.dst v) w
 | .e i t, S, a, w => ∀ w2, Ext w w2 → wpOp P ops Q i (fun a' w' => (closerP ops i = true ∨ S w') ∧ wpTreeC P ops Q t S a' w') a w2
 | .both s t, S, a, w => wpTreeC P ops Q s S a w ∧ wpTreeC P ops Q t S a w
theorem treeC_branch {B : Tr → Array Bool → Bool} {done : Array Bool} {a : Act} {w : World} {i : Nat} : ∀ {t : Tr}, i ∈ t.heads → brB B done t = true → wpTreeC P ops Q t S a w →
  ∃ t', B t' (done.setIfInBounds i true) = true ∧ ∀ w2, Ext w w2 → wpOp P ops Q i (fun a' w' => (closerP ops i = true ∨ S w') ∧ wpTreeC P ops Q t' S a' w') a w2 := by
 intro t
 induction t with
 | nil => intro h; cases h
 | q j t _ => intro h; cases h
 | e j t _ =>
  intro h hB hw
  obtain rfl : i = j := by simpa [Tr.heads] using h
  exact ⟨t, hB, hw⟩
 | both s t hs ht =>
  intro h hB hw
  simp only [brB, Bool.and_eq_true] at hB
  rcases List.mem_append.1 h with h | h
  ·exact hs h hB.1 hw.1
  ·exact ht h hB.2 hw.2
theorem anyC_tree (hG : Grows S) (hsel : Region.noSelect ops = true) (hQ : ∀ c a d v w, Q (.panic c) (Act.put a d v) w → Q (.panic c) a w) :
  ∀ (f : Nat) (t : Tr) (done : Array Bool) (a : Act) (w : World), treeB ops f t done = true → Down ops done → wpTreeC P ops Q t S a w → wpAnyC P ops Q S f done a w := by
 intro f
 induction f with
 | zero =>
  intro t done a w hB hD h
  cases t with
  | nil => exact ⟨by simpa [treeB] using hB, h⟩
  | _ => simp [treeB] at hB
 | succ f ih =>
  have branch : ∀ (t : Tr) (done : Array Bool) (a : Act) (w : World), (Region.ready .any ops done == t.heads && !t.heads.isEmpty && brB (treeB ops f) done t) = true → Down ops done → wpTreeC P ops Q t S a w → wpAnyC P ops Q S (f + 1) done a w := by
   intro t done a w hB hD h
   simp only [Bool.and_eq_true, beq_iff_eq, Bool.not_eq_true'] at hB
   obtain ⟨⟨hr, hne⟩, hb⟩ := hB
   refine ⟨by rw [hr]; intro h0; rw [h0] at hne; simp at hne, fun i hi w2 hx => ?_⟩
   obtain ⟨t', hB', hw'⟩ := treeC_branch (by rw [← hr]; exact hi) hb h
   exact wpOp_mono (fun a' w' ⟨h1, h3⟩ => ⟨h1, ih t' _ _ _ hB' (hD.set hi) h3⟩) (hw' w2 hx)
  intro t done a w hB hD h
  cases t with
  | nil => simp [treeB] at hB
  | q i t =>
   simp only [treeB, Bool.and_eq_true] at hB
   obtain ⟨⟨hr, hf⟩, hB'⟩ := hB
   obtain ⟨o, v, ho, hy, hS, hK⟩ := h
   exact wpAnyC_first hG ho (Region.noSelect_spec hsel) (fun c a w h => hQ c a o.dst v w h) f done a w (Region.free_spec ho hf) hD (by simpa using hr) hy hS (ih _ _ _ _ hB' (hD.set (by simpa using hr)) hK)
  | e i t => exact branch _ done a w hB hD h
  | both s t => exact branch _ done a w hB hD h
theorem Suf.sub {l m : List Res} (h : Suf l m) : l.Sublist m := by
 induction h with
 | here => exact .refl _
 | there _ ih => exact .cons _ ih
theorem keeps_grows {B : Nat} {w0 : World} {lf : List Res} : Grows (Keeps B w0 lf) := fun w w' ⟨l, H, hs⟩ hx => ⟨l, H.ext hx, hs⟩
theorem region_treeC {id : Nat} {a : Act} {w w0 : World} {B : Nat} {rs : List Res} {l : List Oper} {G : Prop} (tag k : Nat) (t : Tr) (hm : P.follows .mixedOrders = true) (hQ : ∀ c a d v w, Q (.panic c) (Act.put a d v) w → Q (.panic c) a w) (hB : treeOk l.toArray t = true)
  (H : Own B w0 w rs) (hG : Key tag G) (h : Key tag G → ∀ w', Own B w0 w' rs → wpTreeC P l.toArray Q t (Keeps B w0 (rs.drop k)) a w') : (Code.region id l.toArray true).wp P Q a w := by
 simp only [treeOk, Bool.and_eq_true] at hB
 exact wp_region_any hm (wpAny_of_C _ _ _ _ (anyC_tree keeps_grows hB.1 hQ _ t _ a w.drew hB.2 (down_start _ _) (h hG _ H.drew)))
theorem region_treeC0 {id : Nat} {a : Act} {w w0 : World} {B : Nat} {rs : List Res} {l : List Oper} {G : Prop} (tag : Nat) (t : Tr) (hm : P.follows .mixedOrders = true) (hQ : ∀ c a d v w, Q (.panic c) (Act.put a d v) w → Q (.panic c) a w) (hB : treeOk l.toArray t = true)
  (H : Own B w0 w rs) (hG : Key tag G) (h : Key tag G → ∀ w', Own B w0 w' rs → wpTreeC P l.toArray Q t (Keeps B w0 rs) a w') : (Code.region id l.toArray true).wp P Q a w := region_treeC tag 0 t hm hQ hB H hG h
section
variable {t s : Tr} {i : Nat} {a : Act} {w w0 : World} {o : Oper} {B : Nat} {lf l : List Res}
theorem treeC_quiet (hS : S w) (ho : ops[i]? = some o) (hb : quietB o.op = true) (hw : Region.wanted o (yielded ops a.tmps) = true)
  (h : ∀ K : Act → Prop, (∀ a, wpTreeC P ops Q t S a w → K a) → o.quiet P a S K) : wpTreeC P ops Q (.q i t) S a w := by
 obtain ⟨v, h1, h2⟩ := h (fun a => wpTreeC P ops Q t S a w) (fun _ h => h)
 refine ⟨o, v, ho, .inl (.inl ⟨hw, fun w' hw' => ?_⟩), hS, h2⟩
 have h3 := h1 w' hw'
 unfold Oper.quietAt at h3
 cases hr : (execOp a.eval o).run P w' with
 | ok n w'' =>
  obtain ⟨u, rfl⟩ := quietB_value hb hr
  rw [hr] at h3
  obtain ⟨rfl, rfl⟩ := h3
  rfl
 | halt x w'' => rw [hr] at h3; exact h3.elim
theorem treeC_skip (hS : S w) (ho : ops[i]? = some o) (hw : Region.wanted o (yielded ops a.tmps) = false) (h : wpTreeC P ops Q t S (a.put o.dst undef) w) : wpTreeC P ops Q (.q i t) S a w := ⟨o, undef, ho, .inl (.inr ⟨hw, rfl⟩), hS, h⟩
theorem treeC_call {v : Value} (hS : Keeps B w0 lf w) (ho : ops[i]? = some o) (hw : Region.wanted o (yielded ops a.tmps) = true)
  (h : ∀ w', Own B w0 w' lf → ∀ K : Act → World → Prop, (∀ w2, Ext w' w2 → K (a.put o.dst v) w2) → o.wp P a w' K noQ) (hk : wpTreeC P ops Q t (Keeps B w0 lf) (a.put o.dst v) w) : wpTreeC P ops Q (.q i t) (Keeps B w0 lf) a w :=
 ⟨o, v, ho, .inr ⟨hw, fun w' ⟨l, H, hs⟩ => h w' (H.sub hs.sub) _ fun w2 h2 => ⟨rfl, h2⟩⟩, hS, hk⟩
theorem treeC_one (H : Own B w0 w l) (ho : ops[i]? = some o) (hw : Region.wanted o (yielded ops a.tmps) = true) (h : ∀ w2, Own B w0 w2 l → ∀ K : Act → World → Prop, (∀ a w', S w' → wpTreeC P ops Q t S a w' → K a w') → o.wp P a w2 K Q) :
  wpTreeC P ops Q (.e i t) S a w := by
 intro w2 hx
 show wpOp P ops Q i _ a w2
 unfold wpOp
 simp only [ho, hw, if_true]
 exact .inl (h w2 (H.ext hx) _ fun a w' h1 h2 => ⟨.inr h1, h2⟩)
theorem treeC_last (hc : closerP ops i = true) (H : Own B w0 w l) (ho : ops[i]? = some o) (hw : Region.wanted o (yielded ops a.tmps) = true) (h : ∀ w2, Own B w0 w2 l → ∀ K : Act → World → Prop, (∀ a w', wpTreeC P ops Q t S a w' → K a w') → o.wp P a w2 K Q) :
  wpTreeC P ops Q (.e i t) S a w := by
 intro w2 hx
 show wpOp P ops Q i _ a w2
 unfold wpOp
 simp only [ho, hw, if_true]
 exact .inl (h w2 (H.ext hx) _ fun a w' h2 => ⟨.inl hc, h2⟩)
theorem treeC_one_skip (hS : ∀ w2, Ext w w2 → S w2) (ho : ops[i]? = some o) (hw : Region.wanted o (yielded ops a.tmps) = false) (h : ∀ w2, Ext w w2 → wpTreeC P ops Q t S (a.put o.dst undef) w2) : wpTreeC P ops Q (.e i t) S a w := by
 intro w2 hx
 show wpOp P ops Q i _ a w2
 unfold wpOp
 simp only [ho, hw, Bool.false_eq_true, if_false]
 exact ⟨.inr (hS w2 hx), h w2 hx⟩
theorem treeC_both (h1 : wpTreeC P ops Q s S a w) (h2 : wpTreeC P ops Q t S a w) : wpTreeC P ops Q (.both s t) S a w := ⟨h1, h2⟩
theorem treeC_nil (H : Own B w0 w l) (h : ∀ w', Own B w0 w' l → Q .normal a w') : wpTreeC P ops Q .nil S a w := fun w' hx => h w' (H.ext hx)
end
end Go.Proofs.YtlhmjhildlnokaaGreat
